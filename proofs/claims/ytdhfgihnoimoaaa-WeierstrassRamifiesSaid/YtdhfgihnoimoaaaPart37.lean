/- A part of the proof. -/
import Derived.Test.YtdhfgihnoimoaaaLayerC
import Derived.Test.YtdhfgihnoimoaaaPart36
import Derived.Test.YtdhfgihnoimoaaaLayerE
import Derived.Test.YtdhfgihnoimoaaaPart32
import Derived.Test.YtdhfgihnoimoaaaPart13
set_option linter.all false
set_option maxHeartbeats 4000000
set_option maxRecDepth 100000
namespace Go.Proofs.Ytdhfgihnoimoaaa
open Go.Sp
theorem B9p (k:Nat) (l:List Int):(iC l).mapM (A87 k)=some (iC l):=by
 induction l with
 | nil=>rfl
 | cons x l ih=>
  unfold iC at ih ⊢
  rw [List.map_cons,List.mapM_cons,ih]; rfl
structure Gok (n:Nat) (es:List E):Prop where
 h1:1≤n
 h12:n≤12
 hl:es.length≤40
 hE:EsOk n es
 hm1: ∀e,e∈es→1≤e.m
 hM:Mult n (mulE es)
 hc:checkG ⟨(n:Int),es⟩=0
 hcc:connB ⟨(n:Int),es⟩=true
structure Dok (n:Nat) (es:List E) (d:List Int):Prop where
 len:d.length=n
 bnd: ∃B Z P:Int,0≤B∧bndL B d∧1≤Z∧sizeE es≤Z∧sumR (fun v=>max 0 (d.getD v 0)) n≤P∧powZ Z B (n-1)+P≤1048576∧powZ Z B (n-1)+n*P≤1048576
theorem Dok.small {n:Nat} {es:List E} {d:List Int} (h:Dok n es d):bndL 1048576 d:=by
 obtain ⟨B,Z,P,b1,b2,b3,b4,b5,b6,b7⟩:=h.bnd
 have hP0:0≤P:=Int.le_trans (A0W fun v _=>by omega) b5
 have:=A60 (show 0≤Z by omega) (n-1) b1
 exact A0t b2 (by omega)
theorem B7b {n:Nat} {es:List E} (g:Gok n es) {q:Nat} (hq:q<n) {d:List Int} (hd:Dok n es d):
  ∃R S:List Int,R.length=n∧S.length=n∧A1S n (mulE es) q (fun v=>R.getD v 0)∧(∀w,w<n→R.getD w 0=d.getD w 0-lap n (mulE es) (fun u=>S.getD u 0) w)∧S.getD q 0=0∧bndL 1048576 R∧bndL 1048576 S∧ACall Try.prog 71 [tG ⟨(n:Int),es⟩,A0g q,A0m d] (.tup [A0m R,A0m S,A0g 0])∧ACallH Try.prog 71 [] [ofT (tG ⟨(n:Int),es⟩),.c (.int .i64 (q:Int)),.c (.slice (A0p d) .none)] [.box [.int .i64 (n:Int),.slice (A0b es) .none],.ro [.int .i64 (n:Int),.slice (A0b es)],.box (iC R),.box (iC S)] (.tup [.c (.ref 2 1 0 n n),.c (.ref 3 1 0 n n),.c (.int .i64 0)]):=by
 obtain ⟨B,Z,P,b1,b2,b3,b4,b5,b6,b7⟩:=hd.bnd
 exact B5A n q es d g.h1 g.h12 hq hd.len g.hl g.hE g.hm1 g.hM g.hc g.hcc B Z P b1 b2 b3 b4 b5 b6 b7
theorem A8j {n:Nat} {es:List E} (g:Gok n es) {d:List Int} (hd:Dok n es d):
  ∃(b:Bool) (R S:List Int),(b=true↔win n (mulE es) (fun v=>d.getD v 0))∧R.length=n∧S.length=n∧A1S n (mulE es) 0 (fun v=>R.getD v 0)∧(∀w,w<n→R.getD w 0=d.getD w 0-lap n (mulE es) (fun u=>S.getD u 0) w)∧S.getD 0 0=0∧bndL 1048576 R∧bndL 1048576 S∧ACall Try.prog 48 [tG ⟨(n:Int),es⟩,A0m d] (.tup [A09 b,A0m R,A0m S,A0g 0])∧ACallH Try.prog 48 [] [ofT (tG ⟨(n:Int),es⟩),.c (.slice (A0p d) .none)] [.box [.int .i64 (n:Int),.slice (A0b es) .none],.box [.int .i64 (n:Int),.slice (A0b es) .none],.ro [.int .i64 (n:Int),.slice (A0b es)],.box (iC R),.box (iC S)] (.tup [.c (.bool b),.c (.ref 3 1 0 n n),.c (.ref 4 1 0 n n),.c (.int .i64 0)]):=by
 have h1:=g.h1
 obtain ⟨R,S,e1,e2,e3,e4,e5,e6,e7,hR,hRB⟩:=B7b g (q:=0) (by omega) hd
 have he:A5m n (mulE es) (fun v=>d.getD v 0) (fun v=>R.getD v 0):=⟨fun u=>S.getD u 0,fun v hv=>e4 v hv⟩
 have hw:win n (mulE es) (fun v=>d.getD v 0)↔0≤R.getD 0 0:=by
  rw [←A9x g.hM (by omega) e3]
  exact ⟨fun h=>h.eqv he,fun h=>h.eqv he.symm⟩
 have r0:=A0P (A0u (d:=R) (i:=0) (by omega))
 refine ⟨decide (0≤R.getD 0 0),R,S,by rw [decide_eq_true_eq]; exact hw.symm,e1,e2,e3,e4,e5,e6,e7,?_⟩
 have hF:ACallH Try.prog 71 [.box [.int .i64 (n:Int),.slice (A0b es) .none]] [ofT (tG ⟨(n:Int),es⟩),.c (.int .i64 0),.c (.slice (A0p d) .none)] ([.box [.int .i64 (n:Int),.slice (A0b es) .none]]++[.box [.int .i64 (n:Int),.slice (A0b es) .none],.ro [.int .i64 (n:Int),.slice (A0b es)],.box (iC R),.box (iC S)]) (.tup [.c (.ref 3 1 0 n n),.c (.ref 4 1 0 n n),.c (.int .i64 0)]):=
  ACallH.frame (ts:=[tG ⟨(n:Int),es⟩,A0g 0,A0m d]) (X:=[.box [.int .i64 (n:Int),.slice (A0b es) .none],.ro [.int .i64 (n:Int),.slice (A0b es)],.box (iC R),.box (iC S)]) hRB (by with_unfolding_all rfl) rfl (fun id hid=>by
   simp only [List.length_cons,List.length_nil,Nat.reduceAdd] at hid
   match id,hid with
   | 0,_=>exact .inl ⟨_,_,rfl,rfl,rfl⟩
   | 1,_=>exact .inr ⟨_,rfl,rfl⟩
   | 2,_=>exact .inl ⟨_,_,rfl,B9p _ _,rfl⟩
   | 3,_=>exact .inl ⟨_,_,rfl,B9p _ _,rfl⟩) rfl
 simp only [tG,ofT,A3i,A0x,List.map_cons,List.map_nil,List.cons_append,List.nil_append] at hF
 have rc:=A1J (A0u (d:=R) (i:=0) (by omega))
 clear e3 e4 e5 e6 e7 he hw hRB
 generalize R.getD 0 0=x at*
 have hR':ACall Try.prog 71 [tG ⟨(n:Int),es⟩,A0g 0,A0m d] (.tup [A0m R,A0m S,A0g 0]):=hR
 refine ⟨?_,?_⟩
 ·
  by_cases hx:x≥0
  ·have hx2:decide (0≤x)=true:=decide_eq_true hx
   rw [hx2]
   refine ACall.of_body Try.func48 rfl (by kernel_rfl) ?_
   simp only [entry,Try.ntmps48,tG,A0m]
   refine zU ?_
   refine zR (zc @r0 (zc @hx (zc @A0f (zc @e1 (zc @Int.toNat_zero trivial))))) (zc hR' trivial) trivial ?_
   simp [A0E,A0C,Blk.cells,ty,Try.results48,A0y,A05,toT,A0e,A0c,A0d,A0a,A09,A0m,A0g]
  ·have hx2:decide (0≤x)=false:=decide_eq_false hx
   rw [hx2]
   refine ACall.of_body Try.func48 rfl (by kernel_rfl) ?_
   simp only [entry,Try.ntmps48,tG,A0m]
   refine zU ?_
   refine zR (zc @r0 (zc @hx (zc @A0f (zc @e1 (zc @Int.toNat_zero trivial))))) (zc hR' trivial) trivial ?_
   simp [A0E,A0C,Blk.cells,ty,Try.results48,A0y,A05,toT,A0e,A0c,A0d,A0a,A09,A0m,A0g]
 ·
  have h0n:(0:Int)<(n:Int):=by omega
  simp only [tG,ofT,A3i,A0x,List.map_cons,List.map_nil]
  by_cases hx:x≥0
  ·have hx2:decide (0≤x)=true:=decide_eq_true hx
   rw [hx2]
   refine ACallH.of_body Try.func48 rfl (by kernel_rfl) ?_
   simp only [entry,Try.ntmps48,List.length_cons,List.length_nil,Nat.reduceAdd,Nat.reduceSub,List.replicate_succ,List.replicate_zero,List.cons_append,List.nil_append]
   refine zJ trivial (zc @rc (zc @hx (zc @h0n (zc @A0F (zc @e1 (zc @Int.toNat_zero (zc @Nat.zero_add trivial))))))) trivial (zc hF trivial) trivial ?_
   simp [A2W,A1M,A0y,A1L,Try.results48]
  ·have hx2:decide (0≤x)=false:=decide_eq_false hx
   rw [hx2]
   refine ACallH.of_body Try.func48 rfl (by kernel_rfl) ?_
   simp only [entry,Try.ntmps48,List.length_cons,List.length_nil,Nat.reduceAdd,Nat.reduceSub,List.replicate_succ,List.replicate_zero,List.cons_append,List.nil_append]
   refine zJ trivial (zc @rc (zc @hx (zc @h0n (zc @A0F (zc @e1 (zc @Int.toNat_zero (zc @Nat.zero_add trivial))))))) trivial (zc hF trivial) trivial ?_
   simp [A2W,A1M,A0y,A1L,Try.results48]
theorem B7G (ls:List (List Int)) (n:Nat) (h1:1≤n) (h12:n≤12) (hll:ls.length<2^20) (hls: ∀d,d∈ls→d.length=n∧bndL 1048576 d):ACall Try.prog 86 [.t (.slice (A1c ls))] (A0g 0):=by
 refine ACall.of_body Try.func86 rfl (by kernel_rfl) ?_
 simp only [entry,Try.ntmps86,A0g]
 refine zU ?_
 refine zJ (stop 2) (zc @A1l trivial) trivial trivial trivial ?_
 refine AWp.loopS (α:=Nat) 36 (fun i=>[(0,.c (.slice (A1c ls) .none)),(8,.c (.slice (A1c ls) .none)),(9,.c (.int .i64 (ls.length:Int))),(10,.c (.int .i64 (i:Int)))]) (fun i=>[]) (fun i=>i≤ls.length) (fun i=>ls.length-i) (0) (hk:=A0s.headL 0 36 [0,8,9,10] (zV3 @A0o @A0j @A0r)) (h0:=?_) (round:=fun i hI=>?_)
 ·exact Nat.zero_le _
 ·have hi:i≤ls.length:=hI
  clear hI
  by_cases hil:i<ls.length
  ·have hiI:(i:Int)<(ls.length:Int):=by omega
   have hge:=List.getElem?_eq_getElem hil
   have hg:=A2F hge
   obtain ⟨d1,d2⟩:=hls _ (List.mem_of_getElem? hge)
   generalize ls[i]=d at*
   have hC:=A47 d n h1 h12 d1 d2
   refine zR (zc @hiI (zc @hg (zc @A1l (zc @A0f (zc @d1 (zc @Nat.zero_add trivial)))))) (zc hC trivial) trivial ?_
   refine ⟨i+1,A0s.headN 0 36 [0,8,9,10] (zV3 @A0o @A0j @A0r),?_,?_⟩
   ·exact hil
   ·omega
  ·have hnl: ¬(i:Int)<(ls.length:Int):=by omega
   refine zJ (stop 9) (zc @hnl (zc @A1l trivial)) trivial trivial trivial ?_
   refine AWp.loopS (α:=Nat) 36 (fun j=>[(0,.c (.slice (A1c ls) .none)),(22,.c (.slice (A1c ls) .none)),(23,.c (.int .i64 (ls.length:Int))),(24,.c (.int .i64 (j:Int)))]) (fun j=>[]) (fun j=>j≤ls.length) (fun j=>ls.length-j) (0) (hk:=A0s.headL 0 36 [0,22,23,24] (zV3 @A0o @A0j @A0r)) (h0:=?_) (round:=fun j hI=>?_)
   ·exact Nat.zero_le _
   ·have hj:j≤ls.length:=hI
    clear hI
    by_cases hjl:j<ls.length
    ·have hjI:(j:Int)<(ls.length:Int):=by omega
     have h0I:(0:Int)<(ls.length:Int):=by omega
     have hge:=List.getElem?_eq_getElem hjl
     have hg:=A2F hge
     have hge0:=List.getElem?_eq_getElem (show 0<ls.length by omega)
     have hg0:=A2F hge0
     obtain ⟨d1,d2⟩:=hls _ (List.mem_of_getElem? hge)
     obtain ⟨d3,d4⟩:=hls _ (List.mem_of_getElem? hge0)
     generalize ls[j]=d at*
     generalize ls[0]=d0 at*
     refine zR (zc @hjI (zc @h0I (zc @hg (zc @hg0 (zc @A1l (zc @A0f (zc @d1 (zc @d3 (zc @Int.toNat_zero (zc @Nat.zero_add trivial)))))))))) trivial trivial ?_
     refine ⟨j+1,A0s.headN 0 36 [0,22,23,24] (zV3 @A0o @A0j @A0r),?_,?_⟩
     ·exact hjl
     ·omega
    ·have hnl2: ¬(j:Int)<(ls.length:Int):=by omega
     refine zR (zc @hnl2 trivial) trivial trivial ?_
     simp [A0E,A0C,Blk.cells,ty,Try.results86,A0y,A05,toT,A0e,A0c,A0d,A0a,A0g]
theorem A4N {d:List Int} {K:Int} (h:bndL K d): ∀i:Nat,-(K*i)≤sumR (fun v=>d.getD v 0) i∧sumR (fun v=>d.getD v 0) i≤K*i
 | 0=>by simp [sumR]
 | i+1=>by
  have h1:=A4N h i
  have h2:=h i
  have e:K*((i+1:Nat):Int)=K*i+K:=by rw [Int.natCast_add,Int.mul_add]; simp
  simp only [sumR]
  omega
def sumD (d:List Int) (n:Nat):Int:=sumR (fun v=>d.getD v 0) n
theorem B3T (d:List Int) (n:Nat) (h1:1≤n) (h12:n≤12) (hd:d.length=n) (hb:bndL 1048576 d):ACall Try.prog 84 [A0m d] (.tup [A0g (sumD d n),A0g 0]):=by
 have hO:=B7G [d] n h1 h12 (by show 1<2^20; decide) (fun x hx=>by rw [List.mem_singleton] at hx; subst hx; exact ⟨hd,hb⟩)
 have e0:sumD d 0=0:=rfl
 simp only [A1c,List.map_cons,List.map_nil] at hO
 refine ACall.of_body Try.func84 rfl (by kernel_rfl) ?_
 simp only [entry,Try.ntmps84,A0m]
 refine zU ?_
 repeat' ((fail_if_success (with_reducible refine AWp.atSeq 6 ?_));(fail_if_success (with_reducible refine AWp.atLast 6 ?_));first|((first|(refine zT ?_;intro K' hK')|(refine zG ?_ ?_<;>(try refine zH ?_)<;>intro hguard<;>(try exact zX)<;>try intro K' hK'))<;>((try simp+contextual only [go_sem,A0f,hd,List.length_cons,List.length_nil,chunks,List.range,List.range.loop]);(repeat' first|(with_reducible refine hK' _ _ ?_;clear hK' K')|(with_reducible refine zK hO ?_;try simp+contextual only [go_sem,A0f,hd,List.length_cons,List.length_nil,chunks,List.range,List.range.loop])|exact zY|with_reducible refine And.intro ?_ ?_|(with_reducible intro hpath;try exact zP)|(refine hK' _ _ ?_;clear hK' K')|fail);try refine zS ?_))|(refine zE ?_;refine hK _ _ ?_;clear hK K)|(refine zN ?_;try refine zS ?_)|refine zA ?_|(refine zB ?_;intro K hK)|(refine zC ?_ ?_<;>(try refine zH ?_)<;>intro hcond<;>try exact zX)|fail)
 refine AWp.loopS (α:=Nat) 25 (fun i=>[(5,.c (.int .i64 (sumD d i))),(14,.c (.slice (A0p d) .none)),(15,.c (.int .i64 (n:Int))),(16,.c (.int .i64 (i:Int)))]) (fun i=>[]) (fun i=>i≤n) (fun i=>n-i) (0) (hk:=A0s.headL 0 25 [5,14,15,16] (zV3 @A0o @A0j @A0r)) (h0:=?_) (round:=fun i hI=>?_)
 ·exact Nat.zero_le _
 ·have hi:i≤n:=hI
  clear hI
  by_cases hil:i<n
  ·have hiI:(i:Int)<(n:Int):=by omega
   have hg:=A0P (A0u (d:=d) (i:=i) (by omega))
   have hx:=hb i
   have hs: -(1048576*i)≤sumD d i∧sumD d i≤1048576*i:=A4N hb i
   have hnx:sumD d (i+1)=sumD d i+d.getD i 0:=rfl
   generalize hN1:sumD d (i+1)=N1 at*
   generalize sumD d i=N0 at*
   generalize d.getD i 0=x at*
   refine zR (zc @hiI (zc @hg (zc @A0f (zc @hd (zc @Nat.zero_add trivial))))) trivial trivial ?_
   refine ⟨i+1,A0s.headF 0 25 [5,14,15,16] (zc @hN1 (zc @hnx trivial)) (zV3 @A0o @A0j @A0r),?_,?_⟩
   ·exact hil
   ·omega
  ·have hnl: ¬(i:Int)<(n:Int):=by omega
   have ei:i=n:=by omega
   rw [ei]
   rw [ei] at hnl
   refine zR (zc @hnl trivial) trivial trivial ?_
   simp [A0E,A0C,Blk.cells,ty,Try.results84,A0y,A05,toT,A0e,A0c,A0d,A0a,A0g]
theorem A9C (d:List Int) {n:Nat} (hd:d.length=n) (hn:n≤100) (hb:bndL (2^40) d):ACall Try.prog 37 [A0m d] (A0g (sumD d n)):=by
 have e0:sumD d 0=0:=rfl
 refine ACall.of_body Try.func37 rfl (by kernel_rfl) ?_
 simp only [entry,Try.ntmps37,A0m]
 refine zU ?_
 refine zR trivial trivial trivial ?_
 refine AWp.loopS (α:=Nat) 18 (fun i=>[(0,.c (.slice (A0p d) .none)),(3,.c (.int .i64 (sumD d i))),(4,.c (.int .i64 (i:Int)))]) (fun i=>[]) (fun i=>i≤n) (fun i=>n-i) (0) (hk:=A0s.headL 0 18 [0,3,4] (zV2 @A0o @A0j)) (h0:=?_) (round:=fun i hI=>?_)
 ·exact Nat.zero_le _
 ·have hi:i≤n:=hI
  clear hI
  by_cases hil:i<n
  ·have hiI:(i:Int)<(n:Int):=by omega
   have hg:=A0P (A0u (d:=d) (i:=i) (by omega))
   have hx:=hb i
   have hs: -(2^40*i)≤sumD d i∧sumD d i≤2^40*i:=A4N hb i
   have hnx:sumD d (i+1)=sumD d i+d.getD i 0:=rfl
   generalize hN1:sumD d (i+1)=N1 at*
   generalize sumD d i=N0 at*
   generalize d.getD i 0=x at*
   refine zR (zc @hiI (zc @hg (zc @A0f (zc @hd (zc @Nat.zero_add trivial))))) trivial trivial ?_
   refine ⟨i+1,A0s.headF 0 18 [0,3,4] (zc @hN1 (zc @hnx trivial)) (zV2 @A0o @A0j),?_,?_⟩
   ·exact hil
   ·omega
  ·have hnl: ¬(i:Int)<(n:Int):=by omega
   have ei:i=n:=by omega
   rw [ei]
   rw [ei] at hnl
   refine zR (zc @hnl (zc @A0f (zc @hd trivial))) trivial trivial ?_
   simp [A0E,A0C,Blk.cells,ty,Try.results37,A0y,A05,toT,A0e,A0c,A0d,A0a,A0g]
theorem A1h {d:List Int} {i:Nat} (h:i<d.length):d.getD i 0=d[i]:=by
 rw [List.getD_eq_getElem?_getD,List.getElem?_eq_getElem h]; rfl
def B5X (d:List Int):Int:=match B3P d with
 | some v=>v
 | none=> -1
theorem B7c (d:List Int) {n:Nat} (hd:d.length=n) (hn:n≤100) {H:List Blk} {x:ACell} (hx:A0e H x=some (.slice (A0p d))):ACallH Try.prog 112 H [.c x] H (.c (.int .i64 (B5X d))):=by
 have key:ACall Try.prog 112 [A0m d] (A0g (B5X d)):=by
  refine ACall.of_body Try.func112 rfl (by kernel_rfl) ?_
  simp only [entry,Try.ntmps112,A0m]
  refine zU ?_
  refine zR trivial trivial trivial ?_
  refine AWp.loopS (α:=Nat) 16 (fun i=>[(0,.c (.slice (A0p d) .none)),(3,.c (.int .i64 (i:Int)))]) (fun i=>[]) (fun i=>i≤n∧ ∀j,j<i→ ¬d.getD j 0<0) (fun i=>n-i) (0) (hk:=A0s.headL 0 16 [0,3] (zV2 @A0o @A0j)) (h0:=?_) (round:=fun i hI=>?_)
  ·exact ⟨Nat.zero_le _,fun j hj=>by omega⟩
  ·obtain ⟨hi,hno⟩:=hI
   by_cases hil:i<n
   ·have hiI:(i:Int)<(n:Int):=by omega
    have hgd:=A0u (d:=d) (i:=i) (by omega)
    have hg:=A0P hgd
    by_cases hx0:d.getD i 0<0
    ·have e:B5X d=i:=by
      have:B3P d=some i:=by
       unfold B3P
       rw [List.findIdx?_eq_some_iff_getElem]
       refine ⟨by omega,?_,fun j hj=> ?_⟩
       ·rw [←A1h (show i<d.length by omega)]
        simpa using hx0
       ·have h1:=hno j hj
        rw [A1h (show j<d.length by omega)] at h1
        simpa using h1
      unfold B5X; rw [this]
     rw [e]
     generalize d.getD i 0=x at*
     refine zR (zc @hiI (zc @hg (zc @hx0 (zc @A0f (zc @hd (zc @Nat.zero_add trivial)))))) trivial trivial ?_
     simp [A0E,A0C,Blk.cells,ty,Try.results112,A0y,A05,toT,A0e,A0c,A0d,A0a,A0g]
    ·have hno2: ∀j,j<i+1→ ¬d.getD j 0<0:=fun j hj=>by
      by_cases e:j=i
      ·rw [e]; exact hx0
      ·exact hno j (by omega)
     clear hno
     generalize d.getD i 0=x at*
     refine zR (zc @hiI (zc @hg (zc @hx0 (zc @A0f (zc @hd (zc @Nat.zero_add trivial)))))) trivial trivial ?_
     refine ⟨i+1,A0s.headN 0 16 [0,3] (zV2 @A0o @A0j),?_,?_⟩
     ·exact ⟨hil,hno2⟩
     ·omega
   ·have hnl: ¬(i:Int)<(n:Int):=by omega
    have e:B5X d= -1:=by
     have:B3P d=none:=by
      unfold B3P
      rw [List.findIdx?_eq_none_iff]
      intro x hx2
      obtain ⟨j,hj,rfl⟩:=List.mem_iff_getElem.1 hx2
      have:=hno j (by omega)
      rw [A1h hj] at this
      simpa using this
     unfold B5X; rw [this]
    rw [e]
    refine zR (zc @hnl (zc @A0f (zc @hd trivial))) trivial trivial ?_
    simp [A0E,A0C,Blk.cells,ty,Try.results112,A0y,A05,toT,A0e,A0c,A0d,A0a,A0g]
 refine ACall.hb key ?_ rfl
 simp only [List.mapM_cons,List.mapM_nil,toT,hx,Option.map_some]; rfl
theorem B9E (b:List Bool) {n:Nat} (hd:b.length=n) (hn:n≤100) {H:List Blk} {x:ACell} (hx:A0e H x=some (.slice (A1m b))):ACallH Try.prog 113 H [.c x] H (.c (.bool (b.all id))):=by
 have key:ACall Try.prog 113 [A37 b] (A09 (b.all id)):=by
  refine ACall.of_body Try.func113 rfl (by kernel_rfl) ?_
  simp only [entry,Try.ntmps113,A37]
  refine zU ?_
  refine zR trivial trivial trivial ?_
  refine AWp.loopS (α:=Nat) 15 (fun i=>[(0,.c (.slice (A1m b) .none)),(3,.c (.int .i64 (i:Int)))]) (fun i=>[]) (fun i=>i≤n∧ ∀j,j<i→b.getD j false=true) (fun i=>n-i) (0) (hk:=A0s.headL 0 15 [0,3] (zV2 @A0o @A0j)) (h0:=?_) (round:=fun i hI=>?_)
  ·exact ⟨Nat.zero_le _,fun j hj=>by omega⟩
  ·obtain ⟨hi,hno⟩:=hI
   by_cases hil:i<n
   ·have hiI:(i:Int)<(n:Int):=by omega
    have hgd:=A1T (R:=b) (i:=i) (by omega)
    have hg:=A4z hgd
    cases hx0:b.getD i false with
    | false=>
     have e:b.all id=false:=by
      rw [Bool.eq_false_iff]
      intro h
      have:=A8K h (v:=i) (by omega)
      rw [hx0] at this; cases this
     rw [e]
     rw [hx0] at hg
     refine zR (zc @hiI (zc @hg (zc @A0V (zc @hd (zc @Nat.zero_add trivial))))) trivial trivial ?_
     simp [A0E,A0C,Blk.cells,ty,Try.results113,A0y,A05,toT,A0e,A0c,A0d,A0a,A09]
    | true=>
     have hno2: ∀j,j<i+1→b.getD j false=true:=fun j hj=>by
      by_cases e:j=i
      ·rw [e]; exact hx0
      ·exact hno j (by omega)
     clear hno
     rw [hx0] at hg
     refine zR (zc @hiI (zc @hg (zc @A0V (zc @hd (zc @Nat.zero_add trivial))))) trivial trivial ?_
     refine ⟨i+1,A0s.headN 0 15 [0,3] (zV2 @A0o @A0j),?_,?_⟩
     ·exact ⟨hil,hno2⟩
     ·omega
   ·have hnl: ¬(i:Int)<(n:Int):=by omega
    have e:b.all id=true:=by
     rw [List.all_eq_true]
     intro x hx2
     obtain ⟨j,hj,rfl⟩:=List.mem_iff_getElem.1 hx2
     have:=hno j (by omega)
     rw [List.getD_eq_getElem?_getD,List.getElem?_eq_getElem hj] at this
     simpa using this
    rw [e]
    refine zR (zc @hnl (zc @A0V (zc @hd trivial))) trivial trivial ?_
    simp [A0E,A0C,Blk.cells,ty,Try.results113,A0y,A05,toT,A0e,A0c,A0d,A0a,A09]
 refine ACall.hb key ?_ rfl
 simp only [List.mapM_cons,List.mapM_nil,toT,hx,Option.map_some]; rfl
theorem B7d (n:Nat) (h1:1≤n) (h12:n≤12):ACallH Try.prog 67 [] [.c (.int .i64 (n:Int))] [.box (iC (List.replicate n 0))] (.tup [.c (.ref 0 1 0 n n),.c (.int .i64 0)]):=by
 have hV:=A6K n (by omega)
 refine ACallH.of_body Try.func67 rfl (by kernel_rfl) ?_
 simp only [entry,Try.ntmps67,List.length_cons,List.length_nil,Nat.reduceAdd,Nat.reduceSub,List.replicate_succ,List.replicate_zero,List.cons_append,List.nil_append]
 refine zR (zc @A1R (zc @Nat.zero_add trivial)) (zc hV trivial) trivial ?_
 simp [A2W,A1M,A0y,A1L,Try.results67]
theorem B5B (n v:Nat) (k:Int) (h1:1≤n) (h12:n≤12) (hv:v<n) (hk: -1048576≤k∧k≤1048576):ACall Try.prog 46 [A0g n,A0g v,A0g k] (.tup [A0m ((List.replicate n 0).set v k),A0g 0]):=by
 have hZ:=B7d n h1 h12
 have hw:=A61 k hk
 have h0: ¬((v:Int)<0):=by omega
 have h2: ¬((v:Int)≥(n:Int)):=by omega
 have hvI:(v:Int)<(n:Int):=by omega
 have hst:=A2z (List.replicate n 0) v k
 have hsl:((List.replicate n (0:Int)).set v k).length=n:=by simp
 have hzl:(List.replicate n (0:Int)).length=n:=by simp
 generalize (List.replicate n (0:Int)).set v k=d at*
 generalize List.replicate n (0:Int)=z at*
 have hbi: ∀(H:List Blk) (k:IntKind) (x:Int),A0e H (.int k x)=some (.int k x):=fun _ _ _=>rfl
 have hr0:A0e [.box (iC d)] (.ref 0 1 0 n n)=some (.slice (A0p d)):=A4X hsl rfl
 refine ACall.of_body Try.func46 rfl (by kernel_rfl) ?_
 simp only [entry,Try.ntmps46,A0g]
 refine zU ?_
 refine zJ trivial (zc @h0 (zc @h2 (zc @hvI (zc @hst (zc @A0F (zc @hzl (zc @Nat.zero_add trivial))))))) (zc hw trivial) (zc hZ trivial) trivial ?_
 simp [A0E,A0C,Try.results46,A0y,A05,toT,hr0,hbi,A0m,A0g]
end Go.Proofs.Ytdhfgihnoimoaaa
