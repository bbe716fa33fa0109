/- A part of the proof. -/
import Derived.Test.YtdhfgihnoimoaaaLayerC
import Derived.Test.YtdhfgihnoimoaaaPart36
import Derived.Test.YtdhfgihnoimoaaaLayerE
set_option linter.all false
set_option maxHeartbeats 4000000
set_option maxRecDepth 100000
namespace Go.Proofs.Ytdhfgihnoimoaaa
open Go.Sp
theorem B9y (k:Nat) (l:List Int):(iC l).mapM (A87 k)=some (iC l):=by
 induction l with
 | nil=>rfl
 | cons x l ih=>
  unfold iC at ih ⊢
  rw [List.map_cons,List.mapM_cons,ih]; rfl
structure Gok (n:Nat) (es:List E):Prop where
 h1:1≤n
 h12:n≤12
 hl:es.length≤40
 hE:EsOk n es
 hm1: ∀e,e∈es→1≤e.m
 hM:Mult n (mulE es)
 hc:checkG ⟨(n:Int),es⟩=0
 hcc:connB ⟨(n:Int),es⟩=true
structure Dok (n:Nat) (es:List E) (d:List Int):Prop where
 len:d.length=n
 bnd: ∃B Z P:Int,0≤B∧bndL B d∧1≤Z∧sizeE es≤Z∧sumR (fun v=>max 0 (d.getD v 0)) n≤P∧powZ Z B (n-1)+P≤1048576∧powZ Z B (n-1)+n*P≤1048576
theorem Dok.small {n:Nat} {es:List E} {d:List Int} (h:Dok n es d):bndL 1048576 d:=by
 obtain ⟨B,Z,P,b1,b2,b3,b4,b5,b6,b7⟩:=h.bnd
 have hP0:0≤P:=Int.le_trans (A0M fun v _=>by omega) b5
 have:=A6y (show 0≤Z by omega) (n-1) b1
 exact A03 b2 (by omega)
theorem B7b {n:Nat} {es:List E} (g:Gok n es) {q:Nat} (hq:q<n) {d:List Int} (hd:Dok n es d):
  ∃R S:List Int,R.length=n∧S.length=n∧A1O n (mulE es) q (fun v=>R.getD v 0)∧(∀w,w<n→R.getD w 0=d.getD w 0-lap n (mulE es) (fun u=>S.getD u 0) w)∧S.getD q 0=0∧bndL 1048576 R∧bndL 1048576 S∧ACall Try.prog 71 [tG ⟨(n:Int),es⟩,A0j q,A00 d] (.tup [A00 R,A00 S,A0j 0])∧ACallH Try.prog 71 [] [ofT (tG ⟨(n:Int),es⟩),.c (.int .i64 (q:Int)),.c (.slice (A0q d) .none)] [.box [.int .i64 (n:Int),.slice (A0b es) .none],.ro [.int .i64 (n:Int),.slice (A0b es)],.box (iC R),.box (iC S)] (.tup [.c (.ref 2 1 0 n n),.c (.ref 3 1 0 n n),.c (.int .i64 0)]):=by
 obtain ⟨B,Z,P,b1,b2,b3,b4,b5,b6,b7⟩:=hd.bnd
 exact B57 n q es d g.h1 g.h12 hq hd.len g.hl g.hE g.hm1 g.hM g.hc g.hcc B Z P b1 b2 b3 b4 b5 b6 b7
theorem A8f {n:Nat} {es:List E} (g:Gok n es) {d:List Int} (hd:Dok n es d):
  ∃(b:Bool) (R S:List Int),(b=true↔win n (mulE es) (fun v=>d.getD v 0))∧R.length=n∧S.length=n∧A1O n (mulE es) 0 (fun v=>R.getD v 0)∧(∀w,w<n→R.getD w 0=d.getD w 0-lap n (mulE es) (fun u=>S.getD u 0) w)∧S.getD 0 0=0∧bndL 1048576 R∧bndL 1048576 S∧ACall Try.prog 48 [tG ⟨(n:Int),es⟩,A00 d] (.tup [A0G b,A00 R,A00 S,A0j 0])∧ACallH Try.prog 48 [] [ofT (tG ⟨(n:Int),es⟩),.c (.slice (A0q d) .none)] [.box [.int .i64 (n:Int),.slice (A0b es) .none],.box [.int .i64 (n:Int),.slice (A0b es) .none],.ro [.int .i64 (n:Int),.slice (A0b es)],.box (iC R),.box (iC S)] (.tup [.c (.bool b),.c (.ref 3 1 0 n n),.c (.ref 4 1 0 n n),.c (.int .i64 0)]):=by
 have h1:=g.h1
 obtain ⟨R,S,e1,e2,e3,e4,e5,e6,e7,hR,hRB⟩:=B7b g (q:=0) (by omega) hd
 have he:A5n n (mulE es) (fun v=>d.getD v 0) (fun v=>R.getD v 0):=⟨fun u=>S.getD u 0,fun v hv=>e4 v hv⟩
 have hw:win n (mulE es) (fun v=>d.getD v 0)↔0≤R.getD 0 0:=by
  rw [←A94 g.hM (by omega) e3]
  exact ⟨fun h=>h.eqv he,fun h=>h.eqv he.symm⟩
 have r0:=A0T (A07 (d:=R) (i:=0) (by omega))
 refine ⟨decide (0≤R.getD 0 0),R,S,by rw [decide_eq_true_eq]; exact hw.symm,e1,e2,e3,e4,e5,e6,e7,?_⟩
 have hF:ACallH Try.prog 71 [.box [.int .i64 (n:Int),.slice (A0b es) .none]] [ofT (tG ⟨(n:Int),es⟩),.c (.int .i64 0),.c (.slice (A0q d) .none)] ([.box [.int .i64 (n:Int),.slice (A0b es) .none]]++[.box [.int .i64 (n:Int),.slice (A0b es) .none],.ro [.int .i64 (n:Int),.slice (A0b es)],.box (iC R),.box (iC S)]) (.tup [.c (.ref 3 1 0 n n),.c (.ref 4 1 0 n n),.c (.int .i64 0)]):=
  ACallH.frame (ts:=[tG ⟨(n:Int),es⟩,A0j 0,A00 d]) (X:=[.box [.int .i64 (n:Int),.slice (A0b es) .none],.ro [.int .i64 (n:Int),.slice (A0b es)],.box (iC R),.box (iC S)]) hRB (by with_unfolding_all rfl) rfl (fun id hid=>by
   simp only [List.length_cons,List.length_nil,Nat.reduceAdd] at hid
   match id,hid with
   | 0,_=>exact .inl ⟨_,_,rfl,rfl,rfl⟩
   | 1,_=>exact .inr ⟨_,rfl,rfl⟩
   | 2,_=>exact .inl ⟨_,_,rfl,B9y _ _,rfl⟩
   | 3,_=>exact .inl ⟨_,_,rfl,B9y _ _,rfl⟩) rfl
 simp only [tG,ofT,A2G,A0s,List.map_cons,List.map_nil,List.cons_append,List.nil_append] at hF
 have rc:=A2j (A07 (d:=R) (i:=0) (by omega))
 clear e3 e4 e5 e6 e7 he hw hRB
 generalize R.getD 0 0=x at*
 have hR':ACall Try.prog 71 [tG ⟨(n:Int),es⟩,A0j 0,A00 d] (.tup [A00 R,A00 S,A0j 0]):=hR
 refine ⟨?_,?_⟩
 ·
  by_cases hx:x≥0
  ·have hx2:decide (0≤x)=true:=decide_eq_true hx
   rw [hx2]
   refine ACall.of_body Try.func48 rfl (by kernel_rfl) ?_
   simp only [entry,Try.ntmps48,tG,A00]
   refine zU ?_
   refine zR (zc @r0 (zc @hx (zc @A0l (zc @e1 (zc @Int.toNat_zero trivial))))) (zc hR' trivial) trivial ?_
   simp [A0J,A0I,Blk.cells,ty,Try.results48,A05,A08,toT,A0e,A0c,A0d,A0a,A0G,A00,A0j]
  ·have hx2:decide (0≤x)=false:=decide_eq_false hx
   rw [hx2]
   refine ACall.of_body Try.func48 rfl (by kernel_rfl) ?_
   simp only [entry,Try.ntmps48,tG,A00]
   refine zU ?_
   refine zR (zc @r0 (zc @hx (zc @A0l (zc @e1 (zc @Int.toNat_zero trivial))))) (zc hR' trivial) trivial ?_
   simp [A0J,A0I,Blk.cells,ty,Try.results48,A05,A08,toT,A0e,A0c,A0d,A0a,A0G,A00,A0j]
 ·
  have h0n:(0:Int)<(n:Int):=by omega
  simp only [tG,ofT,A2G,A0s,List.map_cons,List.map_nil]
  by_cases hx:x≥0
  ·have hx2:decide (0≤x)=true:=decide_eq_true hx
   rw [hx2]
   refine ACallH.of_body Try.func48 rfl (by kernel_rfl) ?_
   simp only [entry,Try.ntmps48,List.length_cons,List.length_nil,Nat.reduceAdd,Nat.reduceSub,List.replicate_succ,List.replicate_zero,List.cons_append,List.nil_append]
   refine zJ trivial (zc @rc (zc @hx (zc @h0n (zc @A0H (zc @e1 (zc @Int.toNat_zero (zc @Nat.zero_add trivial))))))) trivial (zc hF trivial) trivial ?_
   simp [A2V,A1I,A05,A1H,Try.results48]
  ·have hx2:decide (0≤x)=false:=decide_eq_false hx
   rw [hx2]
   refine ACallH.of_body Try.func48 rfl (by kernel_rfl) ?_
   simp only [entry,Try.ntmps48,List.length_cons,List.length_nil,Nat.reduceAdd,Nat.reduceSub,List.replicate_succ,List.replicate_zero,List.cons_append,List.nil_append]
   refine zJ trivial (zc @rc (zc @hx (zc @h0n (zc @A0H (zc @e1 (zc @Int.toNat_zero (zc @Nat.zero_add trivial))))))) trivial (zc hF trivial) trivial ?_
   simp [A2V,A1I,A05,A1H,Try.results48]
theorem B7H (ls:List (List Int)) (n:Nat) (h1:1≤n) (h12:n≤12) (hll:ls.length<2^20) (hls: ∀d,d∈ls→d.length=n∧bndL 1048576 d):ACall Try.prog 86 [.t (.slice (A1w ls))] (A0j 0):=by
 refine ACall.of_body Try.func86 rfl (by kernel_rfl) ?_
 simp only [entry,Try.ntmps86,A0j]
 refine zU ?_
 refine zJ (stop 2) (zc @A2a trivial) trivial trivial trivial ?_
 refine AWp.loopS (α:=Nat) 36 (fun i=>[(0,.c (.slice (A1w ls) .none)),(8,.c (.slice (A1w ls) .none)),(9,.c (.int .i64 (ls.length:Int))),(10,.c (.int .i64 (i:Int)))]) (fun i=>[]) (fun i=>i≤ls.length) (fun i=>ls.length-i) (0) (hk:=A0r.headL 0 36 [0,8,9,10] (zV3 @A0o @A0m @A0p)) (h0:=?_) (round:=fun i hI=>?_)
 ·exact Nat.zero_le _
 ·have hi:i≤ls.length:=hI
  clear hI
  by_cases hil:i<ls.length
  ·have hiI:(i:Int)<(ls.length:Int):=by omega
   have hge:=List.getElem?_eq_getElem hil
   have hg:=A4E hge
   obtain ⟨d1,d2⟩:=hls _ (List.mem_of_getElem? hge)
   generalize ls[i]=d at*
   have hC:=A45 d n h1 h12 d1 d2
   refine zR (zc @hiI (zc @hg (zc @A2a (zc @A0l (zc @d1 (zc @Nat.zero_add trivial)))))) (zc hC trivial) trivial ?_
   refine ⟨i+1,A0r.headN 0 36 [0,8,9,10] (zV3 @A0o @A0m @A0p),?_,?_⟩
   ·exact hil
   ·omega
  ·have hnl: ¬(i:Int)<(ls.length:Int):=by omega
   refine zJ (stop 9) (zc @hnl (zc @A2a trivial)) trivial trivial trivial ?_
   refine AWp.loopS (α:=Nat) 36 (fun j=>[(0,.c (.slice (A1w ls) .none)),(22,.c (.slice (A1w ls) .none)),(23,.c (.int .i64 (ls.length:Int))),(24,.c (.int .i64 (j:Int)))]) (fun j=>[]) (fun j=>j≤ls.length) (fun j=>ls.length-j) (0) (hk:=A0r.headL 0 36 [0,22,23,24] (zV3 @A0o @A0m @A0p)) (h0:=?_) (round:=fun j hI=>?_)
   ·exact Nat.zero_le _
   ·have hj:j≤ls.length:=hI
    clear hI
    by_cases hjl:j<ls.length
    ·have hjI:(j:Int)<(ls.length:Int):=by omega
     have h0I:(0:Int)<(ls.length:Int):=by omega
     have hge:=List.getElem?_eq_getElem hjl
     have hg:=A4E hge
     have hge0:=List.getElem?_eq_getElem (show 0<ls.length by omega)
     have hg0:=A4E hge0
     obtain ⟨d1,d2⟩:=hls _ (List.mem_of_getElem? hge)
     obtain ⟨d3,d4⟩:=hls _ (List.mem_of_getElem? hge0)
     generalize ls[j]=d at*
     generalize ls[0]=d0 at*
     refine zR (zc @hjI (zc @h0I (zc @hg (zc @hg0 (zc @A2a (zc @A0l (zc @d1 (zc @d3 (zc @Int.toNat_zero (zc @Nat.zero_add trivial)))))))))) trivial trivial ?_
     refine ⟨j+1,A0r.headN 0 36 [0,22,23,24] (zV3 @A0o @A0m @A0p),?_,?_⟩
     ·exact hjl
     ·omega
    ·have hnl2: ¬(j:Int)<(ls.length:Int):=by omega
     refine zR (zc @hnl2 trivial) trivial trivial ?_
     simp [A0J,A0I,Blk.cells,ty,Try.results86,A05,A08,toT,A0e,A0c,A0d,A0a,A0j]
theorem A7d {d:List Int} {K:Int} (h:bndL K d): ∀i:Nat,-(K*i)≤sumR (fun v=>d.getD v 0) i∧sumR (fun v=>d.getD v 0) i≤K*i
 | 0=>by simp [sumR]
 | i+1=>by
  have h1:=A7d h i
  have h2:=h i
  have e:K*((i+1:Nat):Int)=K*i+K:=by rw [Int.natCast_add,Int.mul_add]; simp
  simp only [sumR]
  omega
def sumD (d:List Int) (n:Nat):Int:=sumR (fun v=>d.getD v 0) n
theorem B3R (d:List Int) (n:Nat) (h1:1≤n) (h12:n≤12) (hd:d.length=n) (hb:bndL 1048576 d):ACall Try.prog 84 [A00 d] (.tup [A0j (sumD d n),A0j 0]):=by
 have hO:=B7H [d] n h1 h12 (by show 1<2^20; decide) (fun x hx=>by rw [List.mem_singleton] at hx; subst hx; exact ⟨hd,hb⟩)
 have e0:sumD d 0=0:=rfl
 simp only [A1w,List.map_cons,List.map_nil] at hO
 refine ACall.of_body Try.func84 rfl (by kernel_rfl) ?_
 simp only [entry,Try.ntmps84,A00]
 refine zU ?_
 repeat' ((fail_if_success (with_reducible refine AWp.atSeq 6 ?_));(fail_if_success (with_reducible refine AWp.atLast 6 ?_));first|((first|(refine zT ?_;intro K' hK')|(refine zG ?_ ?_<;>(try refine zH ?_)<;>intro hguard<;>(try exact zX)<;>try intro K' hK'))<;>((try simp+contextual only [go_sem,A0l,hd,List.length_cons,List.length_nil,chunks,List.range,List.range.loop]);(repeat' first|(with_reducible refine hK' _ _ ?_;clear hK' K')|(with_reducible refine zK hO ?_;try simp+contextual only [go_sem,A0l,hd,List.length_cons,List.length_nil,chunks,List.range,List.range.loop])|exact zY|with_reducible refine And.intro ?_ ?_|(with_reducible intro hpath;try exact zP)|(refine hK' _ _ ?_;clear hK' K')|fail);try refine zS ?_))|(refine zE ?_;refine hK _ _ ?_;clear hK K)|(refine zN ?_;try refine zS ?_)|refine zA ?_|(refine zB ?_;intro K hK)|(refine zC ?_ ?_<;>(try refine zH ?_)<;>intro hcond<;>try exact zX)|fail)
 refine AWp.loopS (α:=Nat) 25 (fun i=>[(5,.c (.int .i64 (sumD d i))),(14,.c (.slice (A0q d) .none)),(15,.c (.int .i64 (n:Int))),(16,.c (.int .i64 (i:Int)))]) (fun i=>[]) (fun i=>i≤n) (fun i=>n-i) (0) (hk:=A0r.headL 0 25 [5,14,15,16] (zV3 @A0o @A0m @A0p)) (h0:=?_) (round:=fun i hI=>?_)
 ·exact Nat.zero_le _
 ·have hi:i≤n:=hI
  clear hI
  by_cases hil:i<n
  ·have hiI:(i:Int)<(n:Int):=by omega
   have hg:=A0T (A07 (d:=d) (i:=i) (by omega))
   have hx:=hb i
   have hs: -(1048576*i)≤sumD d i∧sumD d i≤1048576*i:=A7d hb i
   have hnx:sumD d (i+1)=sumD d i+d.getD i 0:=rfl
   generalize hN1:sumD d (i+1)=N1 at*
   generalize sumD d i=N0 at*
   generalize d.getD i 0=x at*
   refine zR (zc @hiI (zc @hg (zc @A0l (zc @hd (zc @Nat.zero_add trivial))))) trivial trivial ?_
   refine ⟨i+1,A0r.headF 0 25 [5,14,15,16] (zc @hN1 (zc @hnx trivial)) (zV3 @A0o @A0m @A0p),?_,?_⟩
   ·exact hil
   ·omega
  ·have hnl: ¬(i:Int)<(n:Int):=by omega
   have ei:i=n:=by omega
   rw [ei]
   rw [ei] at hnl
   refine zR (zc @hnl trivial) trivial trivial ?_
   simp [A0J,A0I,Blk.cells,ty,Try.results84,A05,A08,toT,A0e,A0c,A0d,A0a,A0j]
theorem B7c (n:Nat) (h1:1≤n) (h12:n≤12):ACallH Try.prog 67 [] [.c (.int .i64 (n:Int))] [.box (iC (List.replicate n 0))] (.tup [.c (.ref 0 1 0 n n),.c (.int .i64 0)]):=by
 have hV:=A6H n (by omega)
 refine ACallH.of_body Try.func67 rfl (by kernel_rfl) ?_
 simp only [entry,Try.ntmps67,List.length_cons,List.length_nil,Nat.reduceAdd,Nat.reduceSub,List.replicate_succ,List.replicate_zero,List.cons_append,List.nil_append]
 refine zR (zc @A1N (zc @Nat.zero_add trivial)) (zc hV trivial) trivial ?_
 simp [A2V,A1I,A05,A1H,Try.results67]
theorem B58 (n v:Nat) (k:Int) (h1:1≤n) (h12:n≤12) (hv:v<n) (hk: -1048576≤k∧k≤1048576):ACall Try.prog 46 [A0j n,A0j v,A0j k] (.tup [A00 ((List.replicate n 0).set v k),A0j 0]):=by
 have hZ:=B7c n h1 h12
 have hw:=A6z k hk
 have h0: ¬((v:Int)<0):=by omega
 have h2: ¬((v:Int)≥(n:Int)):=by omega
 have hvI:(v:Int)<(n:Int):=by omega
 have hst:=A3k (List.replicate n 0) v k
 have hsl:((List.replicate n (0:Int)).set v k).length=n:=by simp
 have hzl:(List.replicate n (0:Int)).length=n:=by simp
 generalize (List.replicate n (0:Int)).set v k=d at*
 generalize List.replicate n (0:Int)=z at*
 have hbi: ∀(H:List Blk) (k:IntKind) (x:Int),A0e H (.int k x)=some (.int k x):=fun _ _ _=>rfl
 have hr0:A0e [.box (iC d)] (.ref 0 1 0 n n)=some (.slice (A0q d)):=A6F hsl rfl
 refine ACall.of_body Try.func46 rfl (by kernel_rfl) ?_
 simp only [entry,Try.ntmps46,A0j]
 refine zU ?_
 refine zJ trivial (zc @h0 (zc @h2 (zc @hvI (zc @hst (zc @A0H (zc @hzl (zc @Nat.zero_add trivial))))))) (zc hw trivial) (zc hZ trivial) trivial ?_
 simp [A0J,A0I,Try.results46,A05,A08,toT,hr0,hbi,A00,A0j]
def A9K (a b:List Int) (n i:Nat):List Int:=(List.range n).map fun v=>if v<i then a.getD v 0-b.getD v 0 else 0
theorem A7e (a b:List Int) (n i:Nat):(A9K a b n i).length=n:=by simp [A9K]
theorem B2F (a b:List Int) (n i v:Nat):(A9K a b n i)[v]? =if v<n then some (if v<i then a.getD v 0-b.getD v 0 else 0) else none:=by
 unfold A9K
 rw [List.getElem?_map]
 by_cases h:v<n
 ·rw [if_pos h,List.getElem?_range h]; rfl
 ·rw [if_neg h,List.getElem?_eq_none (by simpa using h)]; rfl
theorem B7d (a b:List Int) {n i:Nat} (hi:i<n):(A9K a b n i).set i (a.getD i 0-b.getD i 0)=A9K a b n (i+1):=by
 apply List.ext_getElem?
 intro j
 rw [List.getElem?_set,A7e,B2F,B2F]
 by_cases e:i=j
 ·subst e
  rw [if_pos rfl,if_pos hi,if_pos hi,if_pos (by omega)]
 ·rw [if_neg e]
  by_cases h:j<n
  ·rw [if_pos h,if_pos h]
   by_cases h2:j<i
   ·rw [if_pos h2,if_pos (by omega)]
   ·rw [if_neg h2,if_neg (by omega)]
  ·rw [if_neg h,if_neg h]
theorem B59 (a b:List Int) (n:Nat):A9K a b n 0=List.replicate n 0:=by
 apply List.ext_getElem
 ·simp [A9K]
 ·intro i h1 h2; simp [A9K]
theorem B80 (x y:Int) (h: -(2^40)≤x∧x≤2^40) (h': -(2^40)≤y∧y≤2^40):ACall Try.prog 70 [A0j x,A0j y] (A0j (x-y)):=by
 refine ACall.of_body Try.func70 rfl (by kernel_rfl) ?_
 simp only [entry,Try.ntmps70,A0j]
 refine zU ?_
 refine zR trivial trivial trivial ?_
 simp [A0J,A0I,Blk.cells,ty,Try.results70,A05,A08,toT,A0e,A0c,A0d,A0a,A0j]
theorem B5A (a b:List Int) (n:Nat) (h1:1≤n) (h12:n≤12) (ha:a.length=n) (hb:b.length=n) (ha1:bndL 1048576 a) (hb1:bndL 1048576 b) (hs: ∀v,v<n→ -1048576≤a.getD v 0-b.getD v 0∧a.getD v 0-b.getD v 0≤1048576):
  ACallH Try.prog 69 [] [.c (.slice (A0q a) .none),.c (.slice (A0q b) .none),.c (.fn 70 [])] [.box (iC (A9K a b n n))] (.tup [.c (.ref 0 1 0 n n),.c (.int .i64 0)]):=by
 have hO:=B7H [a,b] n h1 h12 (by show 2<2^20; decide) (fun x hx=>by
  simp only [List.mem_cons,List.not_mem_nil,or_false] at hx
  rcases hx with rfl | rfl
  ·exact ⟨ha,ha1⟩
  ·exact ⟨hb,hb1⟩)
 simp only [A1w,List.map_cons,List.map_nil] at hO
 have hnI:(0:Int)≤(n:Int):=by omega
 refine ACallH.of_body Try.func69 rfl (by kernel_rfl) ?_
 simp only [entry,Try.ntmps69,List.length_cons,List.length_nil,Nat.reduceAdd,Nat.reduceSub,List.replicate_succ,List.replicate_zero,List.cons_append,List.nil_append]
 repeat' ((fail_if_success (with_reducible refine AWp.atSeq 6 ?_));(fail_if_success (with_reducible refine AWp.atLast 6 ?_));first|((first|(refine zT ?_;intro K' hK')|(refine zG ?_ ?_<;>(try refine zH ?_)<;>intro hguard<;>(try exact zX)<;>try intro K' hK'))<;>((try simp+contextual only [go_sem,A0l,ha,A1N,A0H,List.length_replicate,Int.toNat_natCast,Nat.mul_one,Nat.zero_add,List.length_cons,List.length_nil,chunks,List.range,List.range.loop]);(repeat' first|(with_reducible refine hK' _ _ ?_;clear hK' K')|(with_reducible refine zK hO ?_;try simp+contextual only [go_sem,A0l,ha,A1N,A0H,List.length_replicate,Int.toNat_natCast,Nat.mul_one,Nat.zero_add,List.length_cons,List.length_nil,chunks,List.range,List.range.loop])|exact zY|with_reducible refine And.intro ?_ ?_|(with_reducible intro hpath;try exact zP)|(refine hK' _ _ ?_;clear hK' K')|fail);try refine zS ?_))|(refine zE ?_;refine hK _ _ ?_;clear hK K)|(refine zN ?_;try refine zS ?_)|refine zA ?_|(refine zB ?_;intro K hK)|(refine zC ?_ ?_<;>(try refine zH ?_)<;>intro hcond<;>try exact zX)|fail)
 rw [←B59 a b n]
 refine AWp.loopS (α:=Nat) 47 (fun i=>[(0,.c (.slice (A0q a) .none)),(1,.c (.slice (A0q b) .none)),(2,.c (.fn 70 [])),(9,.c (.ref 0 1 0 n n)),(22,.c (.int .i64 (n:Int))),(23,.c (.int .i64 (i:Int)))]) (fun i=>[.box (iC (A9K a b n i))]) (fun i=>i≤n) (fun i=>n-i) (0) (hk:=A0r.headL 1 47 [0,1,2,9,22,23] (zV3 @A0o @A0m @A0p)) (h0:=?_) (round:=fun i hI=>?_)
 ·exact Nat.zero_le _
 ·have hi:i≤n:=hI
  clear hI
  by_cases hil:i<n
  ·have hiI:(i:Int)<(n:Int):=by omega
   have ga:=A0T (A07 (d:=a) (i:=i) (by omega))
   have gb:=A0T (A07 (d:=b) (i:=i) (by omega))
   have hF:=B80 (a.getD i 0) (b.getD i 0) (by have:=ha1 i; omega) (by have:=hb1 i; omega)
   have hw:=A6z (a.getD i 0-b.getD i 0) (hs i hil)
   have hns:=B7d a b hil
   have hnl:=A7e a b n i
   have hst:=A3k (A9K a b n i) i (a.getD i 0-b.getD i 0)
   rw [hns] at hst
   have hl1:=A7e a b n (i+1)
   have hg2:(iC (A9K a b n (i+1)))[i]? =some (.int .i64 (a.getD i 0-b.getD i 0)):=by rw [←hst]; exact List.getElem?_set_self (by rw [A0H,hnl]; exact hil)
   clear hns hs ha1 hb1 hO
   generalize hn1:A9K a b n (i+1)=N1 at*
   generalize A9K a b n i=N0 at*
   generalize a.getD i 0=x at*
   generalize b.getD i 0=y at*
   refine zR (zc @hiI (zc @ga (zc @gb (zc @hst (zc @hg2 (zc @hnl (zc @hl1 (zc @A0H (zc @A0l (zc @ha (zc @hb (zc @Nat.zero_add trivial)))))))))))) (zc hF (zc hw trivial)) trivial ?_
   refine ⟨i+1,A0r.headF 1 47 [0,1,2,9,22,23] (zc @hn1 trivial) (zV3 @A0o @A0m @A0p),?_,?_⟩
   ·exact hil
   ·omega
  ·have hnl: ¬(i:Int)<(n:Int):=by omega
   have ei:i=n:=by omega
   rw [ei]
   rw [ei] at hnl
   refine zR (zc @hnl trivial) trivial trivial ?_
   simp [A2V,A1I,A05,A1H,Try.results69]
theorem B9z (a b:List Int) (n:Nat) (h1:1≤n) (h12:n≤12) (ha:a.length=n) (hb:b.length=n) (ha1:bndL 1048576 a) (hb1:bndL 1048576 b) (hs: ∀v,v<n→ -1048576≤a.getD v 0-b.getD v 0∧a.getD v 0-b.getD v 0≤1048576):
  ACall Try.prog 47 [A00 a,A00 b] (.tup [A00 (A9K a b n n),A0j 0]):=by
 have hE:=B5A a b n h1 h12 ha hb ha1 hb1 hs
 have hl:=A7e a b n n
 generalize A9K a b n n=d at*
 have hbi: ∀(H:List Blk) (k:IntKind) (x:Int),A0e H (.int k x)=some (.int k x):=fun _ _ _=>rfl
 have hr0:A0e [.box (iC d)] (.ref 0 1 0 n n)=some (.slice (A0q d)):=A6F hl rfl
 refine ACall.of_body Try.func47 rfl (by kernel_rfl) ?_
 simp only [entry,Try.ntmps47,A00]
 refine zU ?_
 refine zJ trivial trivial trivial (zc hE trivial) trivial ?_
 simp [A0J,A0I,Try.results47,A05,A08,toT,hr0,hbi,A00,A0j]
theorem B5B {n:Nat} {es:List E} (g:Gok n es) (ls:List (List Int)) (hll:ls.length<2^20) (hls: ∀d,d∈ls→d.length=n∧bndL 1048576 d):ACall Try.prog 64 [tG ⟨(n:Int),es⟩,.t (.slice (A1w ls))] (A0j 0):=by
 have h1:=g.h1
 have h12:=g.h12
 have hC:ACall Try.prog 60 [tG ⟨(n:Int),es⟩] (.tup [A0G true,A0j 0]):=by
  have h:=g.hl
  have:=A20 ⟨(n:Int),es⟩ (by show es.length<2^30; omega)
  rw [g.hc,g.hcc] at this
  exact this
 refine ACall.of_body Try.func64 rfl (by kernel_rfl) ?_
 simp only [entry,Try.ntmps64,tG,A0j]
 refine zU ?_
 refine zJ (stop 7) (zc @A2a trivial) (zc hC trivial) trivial trivial ?_
 refine AWp.loopS (α:=Nat) 34 (fun i=>[(2,.c (.ptr 0 0)),(20,.c (.slice (A1w ls) .none)),(21,.c (.int .i64 (ls.length:Int))),(22,.c (.int .i64 (i:Int)))]) (fun i=>[.box [.int .i64 (n:Int),.slice (A0b es) .none]]) (fun i=>i≤ls.length) (fun i=>ls.length-i) (0) (hk:=A0r.headL 1 34 [2,20,21,22] (zV3 @A0o @A0m @A0p)) (h0:=?_) (round:=fun i hI=>?_)
 ·exact Nat.zero_le _
 ·have hi:i≤ls.length:=hI
  clear hI
  by_cases hil:i<ls.length
  ·have hiI:(i:Int)<(ls.length:Int):=by omega
   have hge:=List.getElem?_eq_getElem hil
   have hg:=A4E hge
   obtain ⟨d1,d2⟩:=hls _ (List.mem_of_getElem? hge)
   generalize ls[i]=d at*
   have hChk:=A45 d n h1 h12 d1 d2
   refine zR (zc @hiI (zc @hg (zc @A2a (zc @Nat.zero_add trivial)))) (zc hChk trivial) trivial ?_
   refine ⟨i+1,A0r.headN 1 34 [2,20,21,22] (zV3 @A0o @A0m @A0p),?_,?_⟩
   ·exact hil
   ·omega
  ·have hnl: ¬(i:Int)<(ls.length:Int):=by omega
   refine zR (zc @hnl trivial) trivial trivial ?_
   simp [A0J,A0I,Blk.cells,ty,Try.results64,A05,A08,toT,A0e,A0c,A0d,A0a,A0j]
end Go.Proofs.Ytdhfgihnoimoaaa
