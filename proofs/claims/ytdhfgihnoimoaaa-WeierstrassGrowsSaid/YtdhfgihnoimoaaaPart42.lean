/- A part of the proof. -/
import Derived.Test.YtdhfgihnoimoaaaLayerC
import Derived.Test.YtdhfgihnoimoaaaPart40
import Derived.Test.YtdhfgihnoimoaaaPart41
import Derived.Test.YtdhfgihnoimoaaaPart39
import Derived.Test.YtdhfgihnoimoaaaPart01
set_option linter.all false
set_option maxHeartbeats 4000000
set_option maxRecDepth 100000
namespace Go.Proofs.Ytdhfgihnoimoaaa
open Go.Sp
theorem B7j {g:G} (d:List Int) (h:checkG g≠0):B0b g d=checkG g:=by
 have:A02 g=checkG g:=if_pos h
 unfold B0b; rw [this,if_pos h]
theorem B5K {g:G} (d:List Int) (h:checkG g=0) (hb:connB g=false):B0b g d=13:=by
 have:A02 g=13:=by unfold A02; rw [if_neg (fun q=>q h),if_neg (by rw [hb]; simp)]
 unfold B0b; rw [this,if_pos (by decide)]
theorem B5L {g:G} (d:List Int) (h:checkG g=0) (hb:connB g=true):B0b g d=B7h d g.n:=by
 have:A02 g=0:=by unfold A02; rw [if_neg (fun q=>q h),if_pos hb]
 unfold B0b; rw [this,if_neg (by decide)]
theorem B3S (g:G) (d:List Int) (hl:g.es.length≤40) (hdl:d.length<2^40):ACall Try.prog 64 [tG g,.t (.slice (A1w [d]))] (A0j (B0b g d)):=by
 have hC:=A20 g (by omega)
 have hK:=B5H d g.n hdl
 by_cases hc:checkG g=0
 ·rw [hc] at hC
  cases hb:connB g with
  | false=>
   rw [hb] at hC
   rw [B5K d hc hb]
   obtain ⟨n,es⟩:=g
   clear hK
   generalize A1w [d]=rows
   have hC2:ACall Try.prog 60 [tG ⟨n,es⟩] (.tup [A0G false,A0j 0]):=hC
   refine ACall.of_body Try.func64 rfl (by kernel_rfl) ?_
   simp only [entry,Try.ntmps64,tG,A0j]
   refine zU ?_
   refine zR trivial (zc hC2 trivial) trivial ?_
   simp [A0J,A0I,Blk.cells,ty,Try.results64,A05,A08,toT,A0e,A0c,A0d,A0a,A0j]
  | true=>
   rw [hb] at hC
   rw [B5L d hc hb]
   obtain ⟨n,es⟩:=g
   have hC2:ACall Try.prog 60 [tG ⟨n,es⟩] (.tup [A0G true,A0j 0]):=hC
   have hK2:ACall Try.prog 83 [A00 d,A0j n] (A0j (B7h d n)):=hK
   clear hC hK
   show ACall _ _ _ (A0j (B7h d n))
   generalize B7h d n=e at*
   have hll:(A1w [d]).length=1:=rfl
   have hg0:(A1w [d])[0]? =some [Tree.slice (A0q d)]:=rfl
   generalize A1w [d]=rows at*
   refine ACall.of_body Try.func64 rfl (by kernel_rfl) ?_
   simp only [entry,Try.ntmps64,tG,A0j]
   refine zU ?_
   refine zJ (stop 7) (zc @hll trivial) (zc hC2 trivial) trivial trivial ?_
   refine AWp.loopS (α:=Nat) 34 (fun i=>[(2,.c (.ptr 0 0)),(20,.c (.slice rows .none)),(21,.c (.int .i64 1)),(22,.c (.int .i64 (i:Int)))]) (fun i=>[.box [.int .i64 n,.slice (A0b es) .none]]) (fun i=>i≤1∧(i=1→e=0)) (fun i=>1-i) (0) (hk:=A0r.headL 1 34 [2,20,21,22] (by (repeat' (first | exact A0n _ | exact A0z _ | exact A0i _ | refine And.intro ?_ ?_ | refine A0k ?_ ?_ | refine A0g ?_ ?_ | refine A0f ?_ ?_ | exact True.intro | exact A0o | exact inB (by assumption) (by intro b hb; simp only [List.mem_cons,List.not_mem_nil,or_false] at hb; rcases hb with rfl | rfl | rfl | rfl | rfl | rfl<;>first | exact True.intro | exact A0o) | (show _<_; omega) | exact A0v (fun _=>True.intro) | (intro c hc; cases hc; done) | (intro c hc; simp only [List.mem_cons,List.not_mem_nil,or_false] at hc; subst hc; first | exact True.intro | exact A0o | exact inB (by assumption) (by intro b hb; simp only [List.mem_cons,List.not_mem_nil,or_false] at hb; rcases hb with rfl | rfl | rfl | rfl | rfl | rfl<;>first | exact True.intro | exact A0o) | (show _<_; omega)) | (intro c hc; simp only [List.mem_cons,List.not_mem_nil,or_false] at hc; rcases hc with rfl | rfl<;>first | exact True.intro | exact A0o | exact inB (by assumption) (by intro b hb; simp only [List.mem_cons,List.not_mem_nil,or_false] at hb; rcases hb with rfl | rfl | rfl | rfl | rfl | rfl<;>first | exact True.intro | exact A0o) | (show _<_; omega)))))) (h0:=?_) (round:=fun i hI=>?_)
   ·exact ⟨by omega,fun h=>by omega⟩
   ·obtain ⟨hi,hie⟩:=hI
    by_cases h0:i=0
    ·
     have hgi:rows[i]? =some [Tree.slice (A0q d)]:=by rw [h0]; exact hg0
     have hiI:(i:Int)<1:=by omega
     have hri:[Tree.slice (A0q d)].length=1:=rfl
     by_cases he:e=0
     ·subst he
      refine zR (zc @hgi (zc @hll (zc @hiI trivial))) (zc hK2 trivial) trivial ?_
      refine ⟨i+1,A0r.headN 1 34 [2,20,21,22] (by (repeat' (first | exact A0n _ | exact A0z _ | exact A0i _ | refine And.intro ?_ ?_ | refine A0k ?_ ?_ | refine A0g ?_ ?_ | refine A0f ?_ ?_ | exact True.intro | exact A0o | exact inB (by assumption) (by intro b hb; simp only [List.mem_cons,List.not_mem_nil,or_false] at hb; rcases hb with rfl | rfl | rfl | rfl | rfl | rfl<;>first | exact True.intro | exact A0o) | (show _<_; omega) | exact A0v (fun _=>True.intro) | (intro c hc; cases hc; done) | (intro c hc; simp only [List.mem_cons,List.not_mem_nil,or_false] at hc; subst hc; first | exact True.intro | exact A0o | exact inB (by assumption) (by intro b hb; simp only [List.mem_cons,List.not_mem_nil,or_false] at hb; rcases hb with rfl | rfl | rfl | rfl | rfl | rfl<;>first | exact True.intro | exact A0o) | (show _<_; omega)) | (intro c hc; simp only [List.mem_cons,List.not_mem_nil,or_false] at hc; rcases hc with rfl | rfl<;>first | exact True.intro | exact A0o | exact inB (by assumption) (by intro b hb; simp only [List.mem_cons,List.not_mem_nil,or_false] at hb; rcases hb with rfl | rfl | rfl | rfl | rfl | rfl<;>first | exact True.intro | exact A0o) | (show _<_; omega))))),?_,?_⟩
      ·exact ⟨by omega,fun _=>rfl⟩
      ·omega
     ·
      refine zR (zc @hgi (zc @hll (zc @hiI (zc @he trivial)))) (zc hK2 trivial) trivial ?_
      simp [A0J,A0I,Blk.cells,ty,Try.results64,A05,A08,toT,A0e,A0c,A0d,A0a,A0j]
    ·have h1:i=1:=by omega
     have he:=hie h1
     have hnl: ¬(i:Int)<1:=by omega
     subst he
     refine zR (zc @hnl trivial) trivial trivial ?_
     simp [A0J,A0I,Blk.cells,ty,Try.results64,A05,A08,toT,A0e,A0c,A0d,A0a,A0j]
 ·have hC2:ACall Try.prog 60 [tG g] (.tup [A0G false,A0j (checkG g)]):=by
   rw [decide_eq_false hc] at hC; exact hC
  rw [B7j d hc]
  clear hC hK
  generalize checkG g=e at*
  generalize A1w [d]=rows
  obtain ⟨n,es⟩:=g
  refine ACall.of_body Try.func64 rfl (by kernel_rfl) ?_
  simp only [entry,Try.ntmps64,tG,A0j]
  refine zU ?_
  refine zR (zc @hc trivial) (zc hC2 trivial) trivial ?_
  simp [A0J,A0I,Blk.cells,ty,Try.results64,A05,A08,toT,A0e,A0c,A0d,A0a,A0j]
theorem B85 {n:Nat} {es es2:List E} {G:Int} (g:Gok n es) (hl2:es2.length≤es.length) (hlim:B8m ⟨(n:Int),es⟩ 50=⟨(n:Int),es2⟩) (hc2:checkG ⟨(n:Int),es2⟩=0) (hgen:B8i (endsL es2)=G):
  ACallH Try.prog 65 [.box [.int .i64 (n:Int),.slice (A0b es) .none]] [.agg [.int .i64 (n:Int),.slice (A0b es) .none]] (.box [.int .i64 (n:Int),.slice (A0b es) .none]:: .box [.int .i64 (n:Int),.slice (A0b es) .none]:: .box [.int .i64 (n:Int),.slice (A0b es2) .none]:: .map ([]):: .box [.int .i64 (n:Int),.slice (A0b es) .none,.int .i64 G,.map 3]::([])) (.tup [.c (.ptr 4 0),.c (.int .i64 0)]):=by
 have hl:=g.hl
 have hL:ACall Try.prog 58 [tG ⟨(n:Int),es⟩] (.tup [tG ⟨(n:Int),es2⟩,A0j 0]):=by
  have:=A7Q ⟨(n:Int),es⟩ (by show es.length<_; omega)
  rw [g.hc,hlim] at this; exact this
 have hG:ACall Try.prog 59 [tG ⟨(n:Int),es2⟩] (.tup [A0j G,A0j 0]):=by
  have:=B2y ⟨(n:Int),es2⟩ (by show es2.length<_; omega)
  rw [hc2] at this
  rw [←hgen]; exact this
 clear hlim hc2 hgen
 refine ACallH.of_body Try.func65 rfl (by kernel_rfl) ?_
 simp only [entry,Try.ntmps65,List.length_cons,List.length_nil,Nat.reduceAdd,Nat.reduceSub,List.replicate_succ,List.replicate_zero,List.cons_append,List.nil_append]
 repeat' ((fail_if_success (with_reducible refine AWp.atSeq 99 ?_));(fail_if_success (with_reducible refine AWp.atLast 99 ?_));first|((first|(refine zT ?_;intro K' hK')|(refine zG ?_ ?_<;>(try refine zH ?_)<;>intro hguard<;>(try exact zX)<;>try intro K' hK'))<;>((try simp+contextual only [go_sem,tG]);(repeat' first|(with_reducible refine hK' _ _ ?_;clear hK' K')|((with_reducible first|refine zK hL ?_|refine zK hG ?_);try simp+contextual only [go_sem,tG])|exact zY|with_reducible refine And.intro ?_ ?_|(with_reducible intro hpath;try exact zP)|(refine hK' _ _ ?_;clear hK' K')|fail);try refine zS ?_))|(refine zE ?_;refine hK _ _ ?_;clear hK K)|(refine zN ?_;try refine zS ?_)|refine zA ?_|(refine zB ?_;intro K hK)|(refine zC ?_ ?_<;>(try refine zH ?_)<;>intro hcond<;>try exact zX)|fail)
 simp [A2V,A1I,A05,A1H,Try.results65]
theorem B0W {n:Nat} {es:List E} {B0:Int} {N:Nat} (c:RkC n es (sizeE es-n+1) B0 N) (d:List Int) (hd:d.length=n) (hb:bndL B0 d):ACall Try.prog 44 [tG ⟨(n:Int),es⟩,A00 d] (.tup [A0j (rkD n (mulE es) fun v=>d.getD v 0),A0j 0]):=by
 have g:=c.g
 obtain ⟨es2,l2,hlim,hc2,hgen,_⟩:=B5I g
 have hdb:bndL 1048576 d:=(c.dok hd hb).small
 have hGv:ACall Try.prog 64 [tG ⟨(n:Int),es⟩,.t (.slice (A1w [d]))] (A0j 0):=B5B g [d] (by show 1<2^20; decide) (fun x hx=>by rw [List.mem_singleton] at hx; subst hx; exact ⟨hd,hdb⟩)
 have hOf:=B85 (es2:=es2) g l2 hlim hc2 hgen
 have hrec:=B7i (es2:=es2) c _ d [] [] (.slice (A0q d) .none) (MOk.nil n es N) hd hb (Nat.le_refl _) rfl (fun b hb=>by cases hb)
 generalize rkD n (mulE es) (fun v=>d.getD v 0)=rk at*
 generalize sizeE es-n+1=G at*
 simp only [A1w,List.map_cons,List.map_nil] at hGv
 refine ACall.of_body Try.func44 rfl (by kernel_rfl) ?_
 simp only [entry,Try.ntmps44,tG,A00,A0j]
 refine zU ?_
 repeat' (first|((with_reducible refine AWp.seq (AWp.of_reg (id:=7) (AReg.pre 2 (fun K hK=>?_))));simp only [List.take_succ_cons,List.take_zero])|((with_reducible refine AWp.of_reg (id:=7) (AReg.pre 2 (fun K hK=>?_)));simp only [List.take_succ_cons,List.take_zero])|((first|(refine zT ?_;intro K' hK')|(refine zG ?_ ?_<;>(try refine zH ?_)<;>intro hguard<;>(try exact zX)<;>try intro K' hK'))<;>((try simp+contextual only [go_sem,chunks,List.range,List.range.loop]);(repeat' first|(with_reducible refine hK' _ _ ?_;clear hK' K')|((with_reducible first|refine zK hGv ?_|refine ⟨_,_,hOf,?_⟩|refine ⟨_,hOf,?_⟩);try simp+contextual only [go_sem,chunks,List.range,List.range.loop])|exact zY|with_reducible refine And.intro ?_ ?_|(with_reducible intro hpath;try exact zP)|(refine hK' _ _ ?_;clear hK' K')|fail);try refine zS ?_))|(refine zE ?_;refine hK _ _ ?_;clear hK K)|(refine zN ?_;try refine zS ?_)|refine zA ?_|(refine zB ?_;intro K hK)|(refine zC ?_ ?_<;>(try refine zH ?_)<;>intro hcond<;>try exact zX)|fail)
 simp only [List.drop_succ_cons,List.drop_zero]
 refine AReg.callE rfl rfl rfl rfl hrec (fun H' r hr=> ?_)
 obtain ⟨M2,hM2,rfl,rfl⟩:=hr
 simp only [A1r,List.set_cons_succ,List.set_cons_zero]
 refine AReg.rest (fun K hK=> ?_)
 repeat' ((fail_if_success (with_reducible refine AWp.atSeq 99 ?_));(fail_if_success (with_reducible refine AWp.atLast 99 ?_));first|((first|(refine zT ?_;intro K' hK')|(refine zG ?_ ?_<;>(try refine zH ?_)<;>intro hguard<;>(try exact zX)<;>try intro K' hK'))<;>((try simp+contextual only [go_sem]);(repeat' first|(with_reducible refine hK' _ _ ?_;clear hK' K')|exact zY|with_reducible refine And.intro ?_ ?_|(with_reducible intro hpath;try exact zP)|(refine hK' _ _ ?_;clear hK' K')|fail);try refine zS ?_))|(refine zE ?_;refine hK _ _ ?_;clear hK K)|(refine zN ?_;try refine zS ?_)|refine zA ?_|(refine zB ?_;intro K hK)|(refine zC ?_ ?_<;>(try refine zH ?_)<;>intro hcond<;>try exact zX)|fail)
 simp [A0J,A0I,Blk.cells,ty,Try.results44,A05,A08,toT,A0e,A0c,A0d,A0a,A0j]
theorem B7k (g:G) (d:List Int) (hl:g.es.length≤40) (hdl:d.length<2^40) (he:B0b g d≠0):ACall Try.prog 44 [tG g,A00 d] (.tup [A0j 0,A0j (B0b g d)]):=by
 have hG:=B3S g d hl hdl
 generalize B0b g d=e at*
 obtain ⟨n,es⟩:=g
 simp only [A1w,List.map_cons,List.map_nil] at hG
 refine ACall.of_body Try.func44 rfl (by kernel_rfl) ?_
 simp only [entry,Try.ntmps44,tG,A00,A0j]
 refine zU ?_
 refine zRc (zc @he trivial) (zc hG trivial) trivial ?_
 simp [A0J,A0I,Blk.cells,ty,Try.results44,A05,A08,toT,A0e,A0c,A0d,A0a,A0j]
theorem B5M {n k:Nat} {l:List Int} (h:l∈B5s (n+1) k) (v:Nat):0≤l.getD v 0∧l.getD v 0≤k:=by
 obtain ⟨h1,h2,h3⟩:=A5R.1 h
 by_cases hv:v<n+1
 ·have e0: ∀i,i<n+1→0≤l.getD i 0:=fun i hi=>by rw [A1U (by omega)]; exact h2 _ (List.getElem_mem _)
  have:=A0U (f:=fun v=>l.getD v 0) (n:=n+1) e0 hv
  rw [←h1,A44,h3] at this
  exact ⟨e0 v hv,this⟩
 ·rw [List.getD_eq_getElem?_getD,List.getElem?_eq_none (by omega)]; simp
noncomputable def B86 (n:Nat) (es:List E) (d:List Int) (l:List Int):Bool:= !B8P n es (B0K d l)
theorem B2I (n:Nat) (es:List E) (d:List Int) (k:Nat):B5t n (mulE es) d k=(B5s n k).find? (B86 n es d):=rfl
theorem B2J {a b:List Int} {A C:Int} (ha:bndL A a) (hb:bndL C b):bndL (A+C) (B0K a b):=fun v=>by
 have h1:=ha v
 have h2:=hb v
 have h3:=ha 0
 by_cases hv:v<a.length
 ·rw [A7b _ _ hv]; omega
 ·rw [List.getD_eq_getElem?_getD,List.getElem?_eq_none (by rw [A9F]; omega)]; simp; have:=hb 0; omega
structure Sm5 (n:Nat) (es:List E):Prop where
 g:Gok n es
 n5:n≤5
 s7:(endsL es).length≤7
theorem Sm5.sz {n:Nat} {es:List E} (h:Sm5 n es):sizeE es≤7∧0≤sizeE es:=by
 have h1:=A60 (es:=es) fun e he=>by have:=h.g.hm1 e he; omega
 have:=h.s7
 omega
theorem Sm5.rk {n:Nat} {es:List E} (h:Sm5 n es):RkC n es (sizeE es-n+1) 110 (2*(sizeE es-n+1)-2).toNat:=B94 h.g h.n5 h.s7
def A4N (n v:Nat) (k:Int):List Int:=(List.replicate n 0).set v k
theorem A9N (n v:Nat) (k:Int):(A4N n v k).length=n:=by simp [A4N]
theorem A3m (n v:Nat) (k:Int) (hv:v<n) (u:Nat):(A4N n v k).getD u 0=if u=v then k else 0:=by
 unfold A4N
 rw [A0Z _ _ _ _ (by simpa using hv)]
 split
 ·rfl
 ·rw [List.getD_eq_getElem?_getD,List.getElem?_replicate]; split<;>rfl
theorem A9O {n v:Nat} {k B:Int} (hv:v<n) (hk: -B≤k∧k≤B):bndL B (A4N n v k):=fun u=>by
 rw [A3m n v k hv]; split<;>omega
theorem A9P {n v:Nat} {k:Int} (hv:v<n):sumD (A4N n v k) n=k:=by
 unfold sumD
 rw [A0h (g:=fun u=>if u=v then k else 0) fun u _=>A3m n v k hv u,A0D _ _ hv]
noncomputable def rkT (n:Nat) (es:List E) (v:Nat) (k:Nat):Int:=rkD n (mulE es) fun u=>(A4N n v (k:Int)).getD u 0
noncomputable def A1b (n:Nat) (es:List E) (v:Nat) (N:Nat):List Int:=(List.range N).map fun k=>rkT n es v k
theorem A4O (n:Nat) (es:List E) (v N:Nat):(A1b n es v N).length=N:=by simp [A1b]
theorem B2a (n:Nat) (es:List E) (v N:Nat):A1b n es v (N+1)=A1b n es v N++[rkT n es v N]:=by simp [A1b,List.range_succ]
theorem A8O {n:Nat} {es:List E} {v N k:Nat} (hk:k<N):(A1b n es v N)[k]? =some (rkT n es v k):=by
 unfold A1b; rw [List.getElem?_map,List.getElem?_range hk]; rfl
theorem B5N {n:Nat} {es:List E} (g:Gok n es) {v:Nat} (hv:v<n) (k:Nat): -1≤rkT n es v k∧rkT n es v k≤k:=by
 have h1:=g.h1
 unfold rkT
 refine ⟨A42 _,?_⟩
 by_cases h:0≤rkD n (mulE es) fun u=>(A4N n v (k:Int)).getD u 0
 ·have:=B24 g.hM (by omega) h
  have e:sumR (fun u=>(A4N n v (k:Int)).getD u 0) n=sumD (A4N n v k) n:=rfl
  rw [e,A9P hv] at this
  exact this
 ·omega
theorem A9Q (n:Nat) (es:List E) (hl:es.length≤40) (hc:checkG ⟨(n:Int),es⟩=0):ACall Try.prog 22 [tG ⟨(n:Int),es⟩] (A0j (sizeE es-n+1)):=by
 have hk:=A0w.1 hc
 have h12:=hk.1
 simp only at h12
 have hm: ∀e,e∈es→0≤e.m∧e.m≤50:=fun e he=>by have:=hk.2.1 e he; unfold okE at this; omega
 have hsb: ∀i,0≤sizeE (es.take i)∧sizeE (es.take i)≤50*(es.take i).length:=fun i=>by
  have key: ∀l:List E,(∀e,e∈l→0≤e.m∧e.m≤50)→0≤sizeE l∧sizeE l≤50*l.length:=fun l=>by
   induction l with
   | nil=>intro _; exact ⟨Int.le_refl _,Int.le_refl _⟩
   | cons e l ih=>
    intro hh
    have h1:=ih fun x hx=>hh x (by simp [hx])
    have h2:=hh e (by simp)
    simp only [sizeE,List.length_cons]
    split<;>omega
  exact key _ fun e he=>hm e (List.mem_of_mem_take he)
 have hsn: ∀i (h:i<es.length),sizeE (es.take (i+1))=sizeE (es.take i)+(if es[i].a≠es[i].b then es[i].m else 0):=fun i h=>by
  have key: ∀(l:List E) e,sizeE (l++[e])=sizeE l+(if e.a≠e.b then e.m else 0):=fun l e=>by
   induction l with
   | nil=>simp [sizeE]
   | cons x l ih=>rw [List.cons_append]; simp only [sizeE,ih]; omega
  rw [List.take_succ_eq_append_getElem h,key]
 have hz:sizeE (es.take 0)+(1-(n:Int))=1-(n:Int):=by simp [sizeE]
 have hfin:sizeE (es.take es.length)=sizeE es:=by rw [List.take_length]
 refine ACall.of_body Try.func22 rfl (by kernel_rfl) ?_
 simp only [entry,Try.ntmps22,tG]
 refine zU ?_
 refine zR trivial trivial trivial ?_
 rw [←hz]
 refine AWp.loopS (α:=Nat) 37 (fun i=>[(1,.c (.ptr 0 0)),(3,.c (.int .i64 (sizeE (es.take i)+(1-(n:Int))))),(4,.c (.int .i64 (i:Int)))]) (fun i=>[.box [.int .i64 (n:Int),.slice (A0b es) .none]]) (fun i=>i≤es.length) (fun i=>es.length-i) (0) (hk:=A0r.headL 1 37 [1,3,4] (zV2 @A0o @A0m)) (h0:=?_) (round:=fun i hI=>?_)
 ·exact Nat.zero_le _
 ·have hi:i≤es.length:=hI
  clear hI
  by_cases hil:i<es.length
  ·have hiI:(i:Int)<(es.length:Int):=by omega
   have e0:=List.getElem?_eq_getElem hil
   have e1:=A1A e0
   have hs:=hsn i hil
   have hb:=hsb i
   rw [List.length_take] at hb
   have hme:=hm _ (List.getElem_mem hil)
   generalize hS1:sizeE (es.take (i+1))=S1 at*
   generalize sizeE (es.take i)=S0 at*
   generalize es[i]=e at*
   by_cases hab:e.a=e.b
   ·rw [if_neg (by omega)] at hs
    rw [Int.add_zero] at hs
    refine zR (zc @hiI (zc @e1 (zc @hab (zc @A0u trivial)))) trivial trivial ?_
    refine ⟨i+1,A0r.headF 1 37 [1,3,4] (zc @hS1 (zc @hs trivial)) (zV2 @A0o @A0m),?_,?_⟩
    ·exact hil
    ·omega
   ·rw [if_pos hab] at hs
    have e3:S0+(1-(n:Int))+e.m=S1+(1-(n:Int)):=by omega
    refine zR (zc @hiI (zc @e1 (zc @hab (zc @e3 (zc @A0u trivial))))) trivial trivial ?_
    refine ⟨i+1,A0r.headF 1 37 [1,3,4] (zc @hS1 trivial) (zV2 @A0o @A0m),?_,?_⟩
    ·exact hil
    ·omega
  ·have hnl: ¬(i:Int)<(es.length:Int):=by omega
   have ei:i=es.length:=by omega
   rw [ei,hfin]
   rw [ei] at hnl
   have e4:sizeE es+(1-(n:Int))=sizeE es-n+1:=by omega
   rw [e4]
   generalize sizeE es-n+1=G at*
   refine zR (zc @hnl (zc @A0u trivial)) trivial trivial ?_
   simp [A0J,A0I,Blk.cells,ty,Try.results22,A05,A08,toT,A0e,A0c,A0d,A0a,A0j]
def A3B (l:List Int):Nat→List Int
 | 0=>[]
 | k+1=>if 1≤k∧l.getD k 0=l.getD (k-1) 0 then A3B l k++[(k:Int)] else A3B l k
theorem A9R (l:List Int): ∀k,(A3B l k).length≤k
 | 0=>Nat.le_refl _
 | k+1=>by have:=A9R l k; unfold A3B; split<;>simp<;>omega
theorem B7l {l:List Int} {k:Nat} (h1:1≤k) (h:l.getD k 0=l.getD (k-1) 0):A3B l (k+1)=A3B l k++[(k:Int)]:=by
 conv=>lhs; unfold A3B
 rw [if_pos ⟨h1,h⟩]
theorem B7m {l:List Int} {k:Nat} (h: ¬l.getD k 0=l.getD (k-1) 0):A3B l (k+1)=A3B l k:=by
 conv=>lhs; unfold A3B
 rw [if_neg (fun q=>h q.2)]
def A2B (G:Int):Nat:=(max (2*G-1) 0).toNat+1
def A8P (g:G) (v:Int):Int:=if A02 g≠0 then A02 g else if 0≤v∧v<g.n then 0 else 2
theorem A9S {n:Nat} {es:List E} {v:Int} (h:A8P ⟨(n:Int),es⟩ v=0):A02 ⟨(n:Int),es⟩=0∧ ∃k:Nat,v=k∧k<n:=by
 unfold A8P at h
 split at h
 ·rename_i h1; exact absurd h h1
 ·rename_i h1
  split at h
  ·rename_i h2
   simp only at h2
   exact ⟨by omega,v.toNat,by omega,by omega⟩
  ·cases h
theorem A5s {g:G} (h:A02 g=0):checkG g=0∧connB g=true:=by
 unfold A02 at h
 split at h
 ·rename_i h1; exact absurd h h1
 ·rename_i h1
  split at h
  ·rename_i h2; exact ⟨by omega,h2⟩
  ·cases h
noncomputable def A5a (n:Nat) (es:List E) (v N:Int):List Int×Int:=if A8P ⟨(n:Int),es⟩ v≠0 then ([],A8P ⟨(n:Int),es⟩ v) else if N<0∨12<N then ([],2) else (A1b n es v.toNat (N.toNat+1),0)
noncomputable def A1V (n:Nat) (es:List E) (v:Nat):List Int:=A3B (A1b n es v (A2B (sizeE es-n+1))) (A2B (sizeE es-n+1))
noncomputable def A3t (n:Nat) (es:List E) (v:Int):List Int×Int:=if A8P ⟨(n:Int),es⟩ v≠0 then ([],A8P ⟨(n:Int),es⟩ v) else if 6<sizeE es-n+1 then ([],12) else (A1V n es v.toNat,0)
def halfT (G:Int):Int:=(G*(G+1)).tdiv 2
noncomputable def wgt (n:Nat) (es:List E) (v:Nat):Int:=sumL (A1V n es v)-halfT (sizeE es-n+1)
noncomputable def A3u (n:Nat) (es:List E) (v:Int):Int×Int:=if (A3t n es v).2≠0 then (0,(A3t n es v).2) else (wgt n es v.toNat,0)
theorem B2b (l:List Int): ∀k x,x∈A3B l k→0≤x∧x<k
 | 0,x,h=>by simp [A3B] at h
 | k+1,x,h=>by
  unfold A3B at h
  split at h
  ·rcases List.mem_append.1 h with h | h
   ·have:=B2b l k x h; omega
   ·rw [List.mem_singleton] at h; omega
  ·have:=B2b l k x h; omega
theorem B5O {n:Nat} {es:List E} {v:Nat} (hG:sizeE es-n+1≤6):(A1V n es v).length≤12∧bndL 12 (A1V n es v):=by
 have hf:A2B (sizeE es-n+1)≤12:=by unfold A2B; omega
 refine ⟨Nat.le_trans (A9R _ _) hf,fun u=> ?_⟩
 by_cases hu:u<(A1V n es v).length
 ·have:=B2b (A1b n es v (A2B (sizeE es-n+1))) (A2B (sizeE es-n+1)) _ (List.getElem_mem (l:=A1V n es v) hu)
  rw [A1U hu]; omega
 ·rw [List.getD_eq_getElem?_getD,List.getElem?_eq_none (by omega)]; simp
theorem B7n {G:Int} (h:0≤G∧G≤6):2*halfT G=G*(G+1)∧0≤halfT G∧halfT G≤21∧0≤G*(G+1)∧G*(G+1)≤42∧(-G*(G+1)).tdiv 2= -halfT G:=by
 have:G=0∨G=1∨G=2∨G=3∨G=4∨G=5∨G=6:=by omega
 rcases this with rfl | rfl | rfl | rfl | rfl | rfl | rfl<;>decide
theorem B5P {l:List Int} {n:Nat} (h:l.length=n):sumD l n=sumL l:=by
 unfold sumD; rw [←h,A44]
def A3f (p:Nat→Bool):Nat→List Int
 | 0=>[]
 | k+1=>if p k=true then A3f p k++[(k:Int)] else A3f p k
theorem A7f (p:Nat→Bool): ∀k,(A3f p k).length≤k
 | 0=>Nat.le_refl _
 | k+1=>by have:=A7f p k; unfold A3f; split<;>simp<;>omega
theorem B2K {p:Nat→Bool} {k:Nat} (h:p k=true):A3f p (k+1)=A3f p k++[(k:Int)]:=by
 conv=>lhs; unfold A3f
 rw [if_pos h]
theorem B2L {p:Nat→Bool} {k:Nat} (h:p k=false):A3f p (k+1)=A3f p k:=by
 conv=>lhs; unfold A3f
 rw [if_neg (by rw [h]; simp)]
noncomputable def wvP (n:Nat) (es:List E) (v:Nat):Bool:=decide (wgt n es v>0)
noncomputable def A6J (n:Nat) (es:List E):List Int×Int:=if A02 ⟨(n:Int),es⟩≠0 then ([],A02 ⟨(n:Int),es⟩) else if 6<sizeE es-n+1 then ([],12) else (A3f (wvP n es) n,0)
theorem B7K {n k:Nat} {es:List E} (hj:A02 ⟨(n:Int),es⟩=0) (hk:k<n):A8P ⟨(n:Int),es⟩ (k:Int)=0:=by
 unfold A8P
 rw [if_neg (by omega),if_pos]
 simp only; omega
end Go.Proofs.Ytdhfgihnoimoaaa
