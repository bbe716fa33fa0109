/- A part of the proof. -/
import Derived.Test.YtdhfgihnoimoaaaLayerC
import Derived.Test.YtdhfgihnoimoaaaPart41
import Derived.Test.YtdhfgihnoimoaaaPart40
import Derived.Test.YtdhfgihnoimoaaaPart01
set_option linter.all false
set_option maxHeartbeats 4000000
set_option maxRecDepth 100000
namespace Go.Proofs.Ytdhfgihnoimoaaa
open Go.Sp
theorem B7i {g:G} (d:List Int) (h:checkG g≠0):A3t g d=checkG g:=by
 have:A0D g=checkG g:=if_pos h
 unfold A3t; rw [this,if_pos h]
theorem B5Q {g:G} (d:List Int) (h:checkG g=0) (hb:connB g=false):A3t g d=13:=by
 have:A0D g=13:=by unfold A0D; rw [if_neg (fun q=>q h),if_neg (by rw [hb]; simp)]
 unfold A3t; rw [this,if_pos (by decide)]
theorem B5R {g:G} (d:List Int) (h:checkG g=0) (hb:connB g=true):A3t g d=B2Q d g.n:=by
 have:A0D g=0:=by unfold A0D; rw [if_neg (fun q=>q h),if_pos hb]
 unfold A3t; rw [this,if_neg (by decide)]
theorem B3W (g:G) (d:List Int) (hl:g.es.length≤40) (hdl:d.length<2^40):ACall Try.prog 64 [tG g,.t (.slice (A1c [d]))] (A0g (A3t g d)):=by
 have hC:=A3n g (by omega)
 have hK:=B5N d g.n hdl
 by_cases hc:checkG g=0
 ·rw [hc] at hC
  cases hb:connB g with
  | false=>
   rw [hb] at hC
   rw [B5Q d hc hb]
   obtain ⟨n,es⟩:=g
   clear hK
   generalize A1c [d]=rows
   have hC2:ACall Try.prog 60 [tG ⟨n,es⟩] (.tup [A09 false,A0g 0]):=hC
   refine ACall.of_body Try.func64 rfl (by kernel_rfl) ?_
   simp only [entry,Try.ntmps64,tG,A0g]
   refine zU ?_
   refine zR trivial (zc hC2 trivial) trivial ?_
   simp [A0E,A0C,Blk.cells,ty,Try.results64,A0y,A05,toT,A0e,A0c,A0d,A0a,A0g]
  | true=>
   rw [hb] at hC
   rw [B5R d hc hb]
   obtain ⟨n,es⟩:=g
   have hC2:ACall Try.prog 60 [tG ⟨n,es⟩] (.tup [A09 true,A0g 0]):=hC
   have hK2:ACall Try.prog 83 [A0m d,A0g n] (A0g (B2Q d n)):=hK
   clear hC hK
   show ACall _ _ _ (A0g (B2Q d n))
   generalize B2Q d n=e at*
   have hll:(A1c [d]).length=1:=rfl
   have hg0:(A1c [d])[0]? =some [Tree.slice (A0p d)]:=rfl
   generalize A1c [d]=rows at*
   refine ACall.of_body Try.func64 rfl (by kernel_rfl) ?_
   simp only [entry,Try.ntmps64,tG,A0g]
   refine zU ?_
   refine zJ (stop 7) (zc @hll trivial) (zc hC2 trivial) trivial trivial ?_
   refine AWp.loopS (α:=Nat) 34 (fun i=>[(2,.c (.ptr 0 0)),(20,.c (.slice rows .none)),(21,.c (.int .i64 1)),(22,.c (.int .i64 (i:Int)))]) (fun i=>[.box [.int .i64 n,.slice (A0b es) .none]]) (fun i=>i≤1∧(i=1→e=0)) (fun i=>1-i) (0) (hk:=A0s.headL 1 34 [2,20,21,22] (by (repeat' (first | exact A0q _ | exact A04 _ | exact A0l _ | refine And.intro ?_ ?_ | refine A0n ?_ ?_ | refine A0i ?_ ?_ | refine A0h ?_ ?_ | exact True.intro | exact A0o | exact inB (by assumption) (by intro b hb; simp only [List.mem_cons,List.not_mem_nil,or_false] at hb; rcases hb with rfl | rfl | rfl | rfl | rfl | rfl<;>first | exact True.intro | exact A0o) | (show _<_; omega) | exact A01 (fun _=>True.intro) | (intro c hc; cases hc; done) | (intro c hc; simp only [List.mem_cons,List.not_mem_nil,or_false] at hc; subst hc; first | exact True.intro | exact A0o | exact inB (by assumption) (by intro b hb; simp only [List.mem_cons,List.not_mem_nil,or_false] at hb; rcases hb with rfl | rfl | rfl | rfl | rfl | rfl<;>first | exact True.intro | exact A0o) | (show _<_; omega)) | (intro c hc; simp only [List.mem_cons,List.not_mem_nil,or_false] at hc; rcases hc with rfl | rfl<;>first | exact True.intro | exact A0o | exact inB (by assumption) (by intro b hb; simp only [List.mem_cons,List.not_mem_nil,or_false] at hb; rcases hb with rfl | rfl | rfl | rfl | rfl | rfl<;>first | exact True.intro | exact A0o) | (show _<_; omega)))))) (h0:=?_) (round:=fun i hI=>?_)
   ·exact ⟨by omega,fun h=>by omega⟩
   ·obtain ⟨hi,hie⟩:=hI
    by_cases h0:i=0
    ·
     have hgi:rows[i]? =some [Tree.slice (A0p d)]:=by rw [h0]; exact hg0
     have hiI:(i:Int)<1:=by omega
     have hri:[Tree.slice (A0p d)].length=1:=rfl
     by_cases he:e=0
     ·subst he
      refine zR (zc @hgi (zc @hll (zc @hiI trivial))) (zc hK2 trivial) trivial ?_
      refine ⟨i+1,A0s.headN 1 34 [2,20,21,22] (by (repeat' (first | exact A0q _ | exact A04 _ | exact A0l _ | refine And.intro ?_ ?_ | refine A0n ?_ ?_ | refine A0i ?_ ?_ | refine A0h ?_ ?_ | exact True.intro | exact A0o | exact inB (by assumption) (by intro b hb; simp only [List.mem_cons,List.not_mem_nil,or_false] at hb; rcases hb with rfl | rfl | rfl | rfl | rfl | rfl<;>first | exact True.intro | exact A0o) | (show _<_; omega) | exact A01 (fun _=>True.intro) | (intro c hc; cases hc; done) | (intro c hc; simp only [List.mem_cons,List.not_mem_nil,or_false] at hc; subst hc; first | exact True.intro | exact A0o | exact inB (by assumption) (by intro b hb; simp only [List.mem_cons,List.not_mem_nil,or_false] at hb; rcases hb with rfl | rfl | rfl | rfl | rfl | rfl<;>first | exact True.intro | exact A0o) | (show _<_; omega)) | (intro c hc; simp only [List.mem_cons,List.not_mem_nil,or_false] at hc; rcases hc with rfl | rfl<;>first | exact True.intro | exact A0o | exact inB (by assumption) (by intro b hb; simp only [List.mem_cons,List.not_mem_nil,or_false] at hb; rcases hb with rfl | rfl | rfl | rfl | rfl | rfl<;>first | exact True.intro | exact A0o) | (show _<_; omega))))),?_,?_⟩
      ·exact ⟨by omega,fun _=>rfl⟩
      ·omega
     ·
      refine zR (zc @hgi (zc @hll (zc @hiI (zc @he trivial)))) (zc hK2 trivial) trivial ?_
      simp [A0E,A0C,Blk.cells,ty,Try.results64,A0y,A05,toT,A0e,A0c,A0d,A0a,A0g]
    ·have h1:i=1:=by omega
     have he:=hie h1
     have hnl: ¬(i:Int)<1:=by omega
     subst he
     refine zR (zc @hnl trivial) trivial trivial ?_
     simp [A0E,A0C,Blk.cells,ty,Try.results64,A0y,A05,toT,A0e,A0c,A0d,A0a,A0g]
 ·have hC2:ACall Try.prog 60 [tG g] (.tup [A09 false,A0g (checkG g)]):=by
   rw [decide_eq_false hc] at hC; exact hC
  rw [B7i d hc]
  clear hC hK
  generalize checkG g=e at*
  generalize A1c [d]=rows
  obtain ⟨n,es⟩:=g
  refine ACall.of_body Try.func64 rfl (by kernel_rfl) ?_
  simp only [entry,Try.ntmps64,tG,A0g]
  refine zU ?_
  refine zR (zc @hc trivial) (zc hC2 trivial) trivial ?_
  simp [A0E,A0C,Blk.cells,ty,Try.results64,A0y,A05,toT,A0e,A0c,A0d,A0a,A0g]
theorem B85 {n:Nat} {es es2:List E} {G:Int} (g:Gok n es) (hl2:es2.length≤es.length) (hlim:B8k ⟨(n:Int),es⟩ 50=⟨(n:Int),es2⟩) (hc2:checkG ⟨(n:Int),es2⟩=0) (hgen:B8f (endsL es2)=G):
  ACallH Try.prog 65 [.box [.int .i64 (n:Int),.slice (A0b es) .none]] [.agg [.int .i64 (n:Int),.slice (A0b es) .none]] (.box [.int .i64 (n:Int),.slice (A0b es) .none]:: .box [.int .i64 (n:Int),.slice (A0b es) .none]:: .box [.int .i64 (n:Int),.slice (A0b es2) .none]:: .map ([]):: .box [.int .i64 (n:Int),.slice (A0b es) .none,.int .i64 G,.map 3]::([])) (.tup [.c (.ptr 4 0),.c (.int .i64 0)]):=by
 have hl:=g.hl
 have hL:ACall Try.prog 58 [tG ⟨(n:Int),es⟩] (.tup [tG ⟨(n:Int),es2⟩,A0g 0]):=by
  have:=A7T ⟨(n:Int),es⟩ (by show es.length<_; omega)
  rw [g.hc,hlim] at this; exact this
 have hG:ACall Try.prog 59 [tG ⟨(n:Int),es2⟩] (.tup [A0g G,A0g 0]):=by
  have:=B25 ⟨(n:Int),es2⟩ (by show es2.length<_; omega)
  rw [hc2] at this
  rw [←hgen]; exact this
 clear hlim hc2 hgen
 refine ACallH.of_body Try.func65 rfl (by kernel_rfl) ?_
 simp only [entry,Try.ntmps65,List.length_cons,List.length_nil,Nat.reduceAdd,Nat.reduceSub,List.replicate_succ,List.replicate_zero,List.cons_append,List.nil_append]
 repeat' ((fail_if_success (with_reducible refine AWp.atSeq 99 ?_));(fail_if_success (with_reducible refine AWp.atLast 99 ?_));first|((first|(refine zT ?_;intro K' hK')|(refine zG ?_ ?_<;>(try refine zH ?_)<;>intro hguard<;>(try exact zX)<;>try intro K' hK'))<;>((try simp+contextual only [go_sem,tG]);(repeat' first|(with_reducible refine hK' _ _ ?_;clear hK' K')|((with_reducible first|refine zK hL ?_|refine zK hG ?_);try simp+contextual only [go_sem,tG])|exact zY|with_reducible refine And.intro ?_ ?_|(with_reducible intro hpath;try exact zP)|(refine hK' _ _ ?_;clear hK' K')|fail);try refine zS ?_))|(refine zE ?_;refine hK _ _ ?_;clear hK K)|(refine zN ?_;try refine zS ?_)|refine zA ?_|(refine zB ?_;intro K hK)|(refine zC ?_ ?_<;>(try refine zH ?_)<;>intro hcond<;>try exact zX)|fail)
 simp [A2W,A1M,A0y,A1L,Try.results65]
theorem B0X {n:Nat} {es:List E} {B0:Int} {N:Nat} (c:RkC n es (sizeE es-n+1) B0 N) (d:List Int) (hd:d.length=n) (hb:bndL B0 d):ACall Try.prog 44 [tG ⟨(n:Int),es⟩,A0m d] (.tup [A0g (rkD n (mulE es) fun v=>d.getD v 0),A0g 0]):=by
 have g:=c.g
 obtain ⟨es2,l2,hlim,hc2,hgen,_⟩:=B5O g
 have hdb:bndL 1048576 d:=(c.dok hd hb).small
 have hGv:ACall Try.prog 64 [tG ⟨(n:Int),es⟩,.t (.slice (A1c [d]))] (A0g 0):=B5D g [d] (by show 1<2^20; decide) (fun x hx=>by rw [List.mem_singleton] at hx; subst hx; exact ⟨hd,hdb⟩)
 have hOf:=B85 (es2:=es2) g l2 hlim hc2 hgen
 have hrec:=B7h (es2:=es2) c _ d [] [] (.slice (A0p d) .none) (MOk.nil n es N) hd hb (Nat.le_refl _) rfl (fun b hb=>by cases hb)
 generalize rkD n (mulE es) (fun v=>d.getD v 0)=rk at*
 generalize sizeE es-n+1=G at*
 simp only [A1c,List.map_cons,List.map_nil] at hGv
 refine ACall.of_body Try.func44 rfl (by kernel_rfl) ?_
 simp only [entry,Try.ntmps44,tG,A0m,A0g]
 refine zU ?_
 repeat' (first|((with_reducible refine AWp.seq (AWp.of_reg (id:=7) (AReg.pre 2 (fun K hK=>?_))));simp only [List.take_succ_cons,List.take_zero])|((with_reducible refine AWp.of_reg (id:=7) (AReg.pre 2 (fun K hK=>?_)));simp only [List.take_succ_cons,List.take_zero])|((first|(refine zT ?_;intro K' hK')|(refine zG ?_ ?_<;>(try refine zH ?_)<;>intro hguard<;>(try exact zX)<;>try intro K' hK'))<;>((try simp+contextual only [go_sem,chunks,List.range,List.range.loop]);(repeat' first|(with_reducible refine hK' _ _ ?_;clear hK' K')|((with_reducible first|refine zK hGv ?_|refine ⟨_,_,hOf,?_⟩|refine ⟨_,hOf,?_⟩);try simp+contextual only [go_sem,chunks,List.range,List.range.loop])|exact zY|with_reducible refine And.intro ?_ ?_|(with_reducible intro hpath;try exact zP)|(refine hK' _ _ ?_;clear hK' K')|fail);try refine zS ?_))|(refine zE ?_;refine hK _ _ ?_;clear hK K)|(refine zN ?_;try refine zS ?_)|refine zA ?_|(refine zB ?_;intro K hK)|(refine zC ?_ ?_<;>(try refine zH ?_)<;>intro hcond<;>try exact zX)|fail)
 simp only [List.drop_succ_cons,List.drop_zero]
 refine AReg.callE rfl rfl rfl rfl hrec (fun H' r hr=> ?_)
 obtain ⟨M2,hM2,rfl,rfl⟩:=hr
 simp only [A1u,List.set_cons_succ,List.set_cons_zero]
 refine AReg.rest (fun K hK=> ?_)
 repeat' ((fail_if_success (with_reducible refine AWp.atSeq 99 ?_));(fail_if_success (with_reducible refine AWp.atLast 99 ?_));first|((first|(refine zT ?_;intro K' hK')|(refine zG ?_ ?_<;>(try refine zH ?_)<;>intro hguard<;>(try exact zX)<;>try intro K' hK'))<;>((try simp+contextual only [go_sem]);(repeat' first|(with_reducible refine hK' _ _ ?_;clear hK' K')|exact zY|with_reducible refine And.intro ?_ ?_|(with_reducible intro hpath;try exact zP)|(refine hK' _ _ ?_;clear hK' K')|fail);try refine zS ?_))|(refine zE ?_;refine hK _ _ ?_;clear hK K)|(refine zN ?_;try refine zS ?_)|refine zA ?_|(refine zB ?_;intro K hK)|(refine zC ?_ ?_<;>(try refine zH ?_)<;>intro hcond<;>try exact zX)|fail)
 simp [A0E,A0C,Blk.cells,ty,Try.results44,A0y,A05,toT,A0e,A0c,A0d,A0a,A0g]
theorem B2S (g:G) (d:List Int) (hl:g.es.length≤40) (hdl:d.length<2^40) (he:A3t g d≠0):ACall Try.prog 44 [tG g,A0m d] (.tup [A0g 0,A0g (A3t g d)]):=by
 have hG:=B3W g d hl hdl
 generalize A3t g d=e at*
 obtain ⟨n,es⟩:=g
 simp only [A1c,List.map_cons,List.map_nil] at hG
 refine ACall.of_body Try.func44 rfl (by kernel_rfl) ?_
 simp only [entry,Try.ntmps44,tG,A0m,A0g]
 refine zU ?_
 refine zRc (zc @he trivial) (zc hG trivial) trivial ?_
 simp [A0E,A0C,Blk.cells,ty,Try.results44,A0y,A05,toT,A0e,A0c,A0d,A0a,A0g]
theorem B0Y {n k:Nat} {l:List Int} (h:l∈A6X (n+1) k) (v:Nat):0≤l.getD v 0∧l.getD v 0≤k:=by
 obtain ⟨h1,h2,h3⟩:=A3V.1 h
 by_cases hv:v<n+1
 ·have e0: ∀i,i<n+1→0≤l.getD i 0:=fun i hi=>by rw [A1h (by omega)]; exact h2 _ (List.getElem_mem _)
  have:=A0X (f:=fun v=>l.getD v 0) (n:=n+1) e0 hv
  rw [←h1,A46,h3] at this
  exact ⟨e0 v hv,this⟩
 ·rw [List.getD_eq_getElem?_getD,List.getElem?_eq_none (by omega)]; simp
noncomputable def B3X (n:Nat) (es:List E) (d:List Int) (l:List Int):Bool:= !B3U n es (A7h d l)
theorem A9F (n:Nat) (es:List E) (d:List Int) (k:Nat):A8g n (mulE es) d k=(A6X n k).find? (B3X n es d):=rfl
theorem A9G {a b:List Int} {A C:Int} (ha:bndL A a) (hb:bndL C b):bndL (A+C) (A7h a b):=fun v=>by
 have h1:=ha v
 have h2:=hb v
 have h3:=ha 0
 by_cases hv:v<a.length
 ·rw [A7i _ _ hv]; omega
 ·rw [List.getD_eq_getElem?_getD,List.getElem?_eq_none (by rw [A5S]; omega)]; simp; have:=hb 0; omega
theorem B7j {n:Nat} {es:List E} (g:Gok n es) (hn6:n≤6) (hsz:sizeE es≤1000) {d:List Int} (hd:d.length=n) (hb:bndL 500 d) {k:Nat} (hk:k≤40):
  ACall Try.prog 72 [tG ⟨(n:Int),es⟩,A0m d,A0g k] (.tup [A0m ((A8g n (mulE es) d k).getD []),A09 (A8g n (mulE es) d k).isSome]):=by
 have h1:=g.h1
 rw [A9F]
 obtain ⟨m,rfl⟩: ∃m,n=m+1:=⟨n-1,by omega⟩
 have hLs:=B0U 40 (by decide) m (by
  have:(40+1)^m≤41^5:=Nat.pow_le_pow_right (by decide) (by omega)
  exact Nat.le_trans this (by decide)) (by omega) k hk
 have hmem: ∀l,l∈A6X (m+1) k→l.length=m+1∧ ∀v,0≤l.getD v 0∧l.getD v 0≤k:=fun l hl=>⟨(A3V.1 hl).1,fun v=>B0Y hl v⟩
 have hPl: ∀l,l∈A6X (m+1) k→ACall Try.prog 94 [A0m d,A0m l,A0g (-1)] (A0m (A7h d l)):=fun l hl=>by
  obtain ⟨q1,q2⟩:=hmem l hl
  exact B84 d l (n:=m+1) (by omega) (by omega) hd q1 (A0t hb (by decide)) (fun v=>by have:=q2 v; omega)
 have hWn: ∀l,l∈A6X (m+1) k→ACall Try.prog 93 [tG ⟨((m+1:Nat):Int),es⟩,A0m (A7h d l)] (A09 (B3U (m+1) es (A7h d l))):=fun l hl=>by
  obtain ⟨q1,q2⟩:=hmem l hl
  exact B83 g (by rw [A5S]; exact hd) (A0t (A9G hb (C:=40) fun v=>by have:=q2 v; omega) (by decide)) hsz
 have hfB: ∀l,B3X (m+1) es d l= !B3U (m+1) es (A7h d l):=fun _=>rfl
 have hLl:(A6X (m+1) k).length<2^40:=by
  have h2:=A9D m k 40 hk
  have:(40+1)^m≤41^5:=Nat.pow_le_pow_right (by decide) (by omega)
  have h3:(41:Nat)^5<2^40:=by decide
  omega
 generalize A6X (m+1) k=L at*
 refine ACall.of_body Try.func72 rfl (by kernel_rfl) ?_
 simp only [entry,Try.ntmps72,tG,A0m,A0g]
 refine zU ?_
 refine zR trivial (zc hLs trivial) trivial ?_
 refine AWp.loopS (α:=Nat) 33 (fun i=>[(1,.c (.slice (A0p d) .none)),(3,.c (.ptr 0 0)),(8,.c (.slice (A1c L) .none)),(9,.c (.int .i64 (i:Int)))]) (fun i=>[.box [.int .i64 ((m+1:Nat):Int),.slice (A0b es) .none]]) (fun i=>i≤L.length∧L.find? (B3X (m+1) es d)=(L.drop i).find? (B3X (m+1) es d)) (fun i=>L.length-i) (0) (hk:=A0s.headL 1 33 [1,3,8,9] (zV2 @A0o @A0j)) (h0:=?_) (round:=fun i hI=>?_)
 ·exact ⟨Nat.zero_le _,by rw [List.drop_zero]⟩
 ·obtain ⟨hi,hf⟩:=hI
  by_cases hil:i<L.length
  ·have hiI:(i:Int)<(L.length:Int):=by omega
   have e0:=List.getElem?_eq_getElem hil
   have e1:=A2F e0
   have hP:=hPl _ (List.getElem_mem hil)
   have hW:=hWn _ (List.getElem_mem hil)
   have hfb:=hfB L[i]
   rw [List.drop_eq_getElem_cons hil,List.find?_cons] at hf
   generalize L[i]=l at*
   generalize A7h d l=x at*
   cases hb2:B3U (m+1) es x with
   | true=>
    rw [hb2] at hW hfb
    rw [hfb] at hf
    simp only [Bool.not_true] at hf
    clear hPl hWn hfb
    refine zR (zc @hiI (zc @e1 (zc @A1l trivial))) (zc hP (zc hW trivial)) trivial ?_
    refine ⟨i+1,A0s.headN 1 33 [1,3,8,9] (zV2 @A0o @A0j),?_,?_⟩
    ·exact ⟨hil,hf⟩
    ·omega
   | false=>
    rw [hb2] at hW hfb
    rw [hfb] at hf
    simp only [Bool.not_false] at hf
    clear hPl hWn hfb
    rw [hf]
    refine zR (zc @hiI (zc @e1 (zc @A1l trivial))) (zc hP (zc hW trivial)) trivial ?_
    simp [A0E,A0C,Blk.cells,ty,Try.results72,A0y,A05,toT,A0e,A0c,A0d,A0a,A09,A0m]
  ·have hnl: ¬(i:Int)<(L.length:Int):=by omega
   rw [List.drop_eq_nil_of_le (by omega),List.find?_nil] at hf
   rw [hf]
   refine zR (zc @hnl (zc @A1l trivial)) trivial trivial ?_
   simp [A0E,A0C,Blk.cells,ty,Try.results72,A0y,A05,toT,A0e,A0c,A0d,A0a,A09,A0m,A0p]
theorem B9w {n:Nat} {es:List E} (g:Gok n es) (hn6:n≤6) (hsz:sizeE es≤1000) {d:List Int} (hd:d.length=n) (hb:bndL 500 d) (hdeg:sumD d n≤30):
  ACall Try.prog 50 [tG ⟨(n:Int),es⟩,A0m d] (A0g (rkD n (mulE es) fun v=>d.getD v 0)):=by
 have h1:=g.h1
 have hM:=g.hM
 have hT:=A9C d hd (by omega) (A0t hb (by decide))
 have hF:=fun (k:Nat) (hk:k≤40)=>B7j g hn6 hsz hd hb hk
 have hsb: -(500*n:Int)≤sumD d n:=(A4N hb n).1
 have hrk:=fun {r:Nat}=>B9l (n:=n) (M:=mulE es) hM (by omega) hd (r:=r)
 have hsD:sumR (fun v=>d.getD v 0) n=sumD d n:=rfl
 rw [hsD] at hrk
 have hf1: ∀k,(A8g n (mulE es) d k).isSome=false→A8g n (mulE es) d k=none:=fun k h=>by simpa using h
 generalize rkD n (mulE es) (fun v=>d.getD v 0)=rk at*
 generalize sumD d n=sm at*
 refine ACall.of_body Try.func50 rfl (by kernel_rfl) ?_
 simp only [entry,Try.ntmps50,tG,A0m,A0g]
 refine zU ?_
 refine zR trivial trivial trivial ?_
 refine AWp.loopS (α:=Nat) 25 (fun r=>[(1,.c (.slice (A0p d) .none)),(2,.c (.ptr 0 0)),(5,.c (.int .i64 ((r:Int)-1)))]) (fun r=>[.box [.int .i64 (n:Int),.slice (A0b es) .none]]) (fun r=>(r:Int)≤max 0 (sm+1)∧ ∀k,k<r→A8g n (mulE es) d k=none) (fun r=>40-r) (0) (hk:=A0s.headL 1 25 [1,2,5] (zV2 @A0o @A0j)) (h0:=?_) (round:=fun r hI=>?_)
 ·exact ⟨by omega,fun k hk=>by omega⟩
 ·obtain ⟨hr,hpre⟩:=hI
  by_cases hlt:(r:Int)-1<sm
  ·have hFr:=hF r (by omega)
   have e1:(r:Int)-1+1=(r:Int):=by omega
   have hr40:r≤31:=by omega
   have hfr:=hf1 r
   have hrr:= @hrk r hpre
   clear hF hf1 hrk
   generalize hfl:A8g n (mulE es) d r=fl at*
   generalize fl.getD []=w at*
   cases hs:fl.isSome with
   | true=>
    have hv:=hrr (.inl hs)
    rw [hs] at hFr
    rw [hv]
    refine zR (zc @hlt (zc @e1 trivial)) (zc hT (zc hFr trivial)) trivial ?_
    simp [A0E,A0C,Blk.cells,ty,Try.results50,A0y,A05,toT,A0e,A0c,A0d,A0a,A0g]
   | false=>
    rw [hs] at hFr
    have hn1:=hfr hs
    rw [←hfl] at hn1
    have e2:(r:Int)-1+1=((r+1:Nat):Int)-1:=by omega
    refine zR (zc @hlt (zc @e1 trivial)) (zc hT (zc hFr trivial)) trivial ?_
    refine ⟨r+1,A0s.headN 1 25 [1,2,5] (zV2 @A0o @A0j),?_,?_⟩
    ·refine ⟨by omega,fun k hk=> ?_⟩
     by_cases e:k=r
     ·rw [e]; exact hn1
     ·exact hpre k (by omega)
    ·omega
  ·have hv:= @hrk r hpre (.inr (by omega))
   rw [hv]
   clear hF hf1 hrk
   refine zR (zc @hlt trivial) (zc hT trivial) trivial ?_
   simp [A0E,A0C,Blk.cells,ty,Try.results50,A0y,A05,toT,A0e,A0c,A0d,A0a,A0g]
structure Sm5 (n:Nat) (es:List E):Prop where
 g:Gok n es
 n5:n≤5
 s7:(endsL es).length≤7
theorem Sm5.sz {n:Nat} {es:List E} (h:Sm5 n es):sizeE es≤7∧0≤sizeE es:=by
 have h1:=A63 (es:=es) fun e he=>by have:=h.g.hm1 e he; omega
 have:=h.s7
 omega
theorem Sm5.rk {n:Nat} {es:List E} (h:Sm5 n es):RkC n es (sizeE es-n+1) 110 (2*(sizeE es-n+1)-2).toNat:=B9v h.g h.n5 h.s7
def A9U (n v:Nat) (k:Int):List Int:=(List.replicate n 0).set v k
theorem A9H (n v:Nat) (k:Int):(A9U n v k).length=n:=by simp [A9U]
theorem B2T (n v:Nat) (k:Int) (hv:v<n) (u:Nat):(A9U n v k).getD u 0=if u=v then k else 0:=by
 unfold A9U
 rw [A08 _ _ _ _ (by simpa using hv)]
 split
 ·rfl
 ·rw [List.getD_eq_getElem?_getD,List.getElem?_replicate]; split<;>rfl
theorem A9I {n v:Nat} {k B:Int} (hv:v<n) (hk: -B≤k∧k≤B):bndL B (A9U n v k):=fun u=>by
 rw [B2T n v k hv]; split<;>omega
noncomputable def rkT (n:Nat) (es:List E) (v:Nat) (k:Nat):Int:=rkD n (mulE es) fun u=>(A9U n v (k:Int)).getD u 0
noncomputable def A1e (n:Nat) (es:List E) (v:Nat) (N:Nat):List Int:=(List.range N).map fun k=>rkT n es v k
theorem A64 (n:Nat) (es:List E) (v N:Nat):(A1e n es v N).length=N:=by simp [A1e]
theorem B2g (n:Nat) (es:List E) (v N:Nat):A1e n es v (N+1)=A1e n es v N++[rkT n es v N]:=by simp [A1e,List.range_succ]
theorem B3Y {n:Nat} {es:List E} {v N k:Nat} (hk:k<N):(A1e n es v N)[k]? =some (rkT n es v k):=by
 unfold A1e; rw [List.getElem?_map,List.getElem?_range hk]; rfl
def A6M (l:List Int):Nat→List Int
 | 0=>[]
 | k+1=>if 1≤k∧l.getD k 0=l.getD (k-1) 0 then A6M l k++[(k:Int)] else A6M l k
theorem A9J (l:List Int): ∀k,(A6M l k).length≤k
 | 0=>Nat.le_refl _
 | k+1=>by have:=A9J l k; unfold A6M; split<;>simp<;>omega
theorem B7k {l:List Int} {k:Nat} (h1:1≤k) (h:l.getD k 0=l.getD (k-1) 0):A6M l (k+1)=A6M l k++[(k:Int)]:=by
 conv=>lhs; unfold A6M
 rw [if_pos ⟨h1,h⟩]
theorem B7l {l:List Int} {k:Nat} (h: ¬l.getD k 0=l.getD (k-1) 0):A6M l (k+1)=A6M l k:=by
 conv=>lhs; unfold A6M
 rw [if_neg (fun q=>h q.2)]
def A9V (G:Int):Nat:=(max (2*G-1) 0).toNat+1
def A8O (g:G) (v:Int):Int:=if A0D g≠0 then A0D g else if 0≤v∧v<g.n then 0 else 2
theorem A9K {n:Nat} {es:List E} {v:Int} (h:A8O ⟨(n:Int),es⟩ v=0):A0D ⟨(n:Int),es⟩=0∧ ∃k:Nat,v=k∧k<n:=by
 unfold A8O at h
 split at h
 ·rename_i h1; exact absurd h h1
 ·rename_i h1
  split at h
  ·rename_i h2
   simp only at h2
   exact ⟨by omega,v.toNat,by omega,by omega⟩
  ·cases h
theorem A5s {g:G} (h:A0D g=0):checkG g=0∧connB g=true:=by
 unfold A0D at h
 split at h
 ·rename_i h1; exact absurd h h1
 ·rename_i h1
  split at h
  ·rename_i h2; exact ⟨by omega,h2⟩
  ·cases h
noncomputable def A4Y (n:Nat) (es:List E) (v N:Int):List Int×Int:=if A8O ⟨(n:Int),es⟩ v≠0 then ([],A8O ⟨(n:Int),es⟩ v) else if N<0∨12<N then ([],2) else (A1e n es v.toNat (N.toNat+1),0)
noncomputable def A2d (n:Nat) (es:List E) (v:Nat):List Int:=A6M (A1e n es v (A9V (sizeE es-n+1))) (A9V (sizeE es-n+1))
noncomputable def A3u (n:Nat) (es:List E) (v:Int):List Int×Int:=if A8O ⟨(n:Int),es⟩ v≠0 then ([],A8O ⟨(n:Int),es⟩ v) else if 6<sizeE es-n+1 then ([],12) else (A2d n es v.toNat,0)
def B2h (G:Int):Int:=(G*(G+1)).tdiv 2
noncomputable def wgt (n:Nat) (es:List E) (v:Nat):Int:=B5w (A2d n es v)-B2h (sizeE es-n+1)
noncomputable def A3v (n:Nat) (es:List E) (v:Int):Int×Int:=if (A3u n es v).2≠0 then (0,(A3u n es v).2) else (wgt n es v.toNat,0)
theorem B2i (l:List Int): ∀k x,x∈A6M l k→0≤x∧x<k
 | 0,x,h=>by simp [A6M] at h
 | k+1,x,h=>by
  unfold A6M at h
  split at h
  ·rcases List.mem_append.1 h with h | h
   ·have:=B2i l k x h; omega
   ·rw [List.mem_singleton] at h; omega
  ·have:=B2i l k x h; omega
theorem B5S {n:Nat} {es:List E} {v:Nat} (hG:sizeE es-n+1≤6):(A2d n es v).length≤12∧bndL 12 (A2d n es v):=by
 have hf:A9V (sizeE es-n+1)≤12:=by unfold A9V; omega
 refine ⟨Nat.le_trans (A9J _ _) hf,fun u=> ?_⟩
 by_cases hu:u<(A2d n es v).length
 ·have:=B2i (A1e n es v (A9V (sizeE es-n+1))) (A9V (sizeE es-n+1)) _ (List.getElem_mem (l:=A2d n es v) hu)
  rw [A1h hu]; omega
 ·rw [List.getD_eq_getElem?_getD,List.getElem?_eq_none (by omega)]; simp
theorem B7m {G:Int} (h:0≤G∧G≤6):2*B2h G=G*(G+1)∧0≤B2h G∧B2h G≤21∧0≤G*(G+1)∧G*(G+1)≤42∧(-G*(G+1)).tdiv 2= -B2h G:=by
 have:G=0∨G=1∨G=2∨G=3∨G=4∨G=5∨G=6:=by omega
 rcases this with rfl | rfl | rfl | rfl | rfl | rfl | rfl<;>decide
end Go.Proofs.Ytdhfgihnoimoaaa
