/- A part of the proof. -/
import Derived.Test.YtdhfgihnoimoaaaPart42
import Derived.Test.YtdhfgihnoimoaaaPart37
import Derived.Test.YtdhfgihnoimoaaaLayerE
import Derived.Test.YtdhfgihnoimoaaaLayerC
set_option linter.all false
set_option maxHeartbeats 4000000
set_option maxRecDepth 100000
namespace Go.Proofs.Ytdhfgihnoimoaaa
open Go.Sp
theorem B0X (g:G) (hl:g.es.length≤40):ACall Try.prog 38 [tG g] (A0j (A02 g)):=by
 have hC:=A20 g (by omega)
 by_cases hc:checkG g=0
 ·rw [hc] at hC
  cases hb:connB g with
  | false=>
   have e:A02 g=13:=by unfold A02; rw [if_neg (fun q=>q hc),if_neg (by rw [hb]; simp)]
   rw [e]
   rw [hb] at hC
   obtain ⟨n,es⟩:=g
   have hC2:ACall Try.prog 60 [tG ⟨n,es⟩] (.tup [A0G false,A0j 0]):=hC
   refine ACall.of_body Try.func38 rfl (by kernel_rfl) ?_
   simp only [entry,Try.ntmps38,tG]
   refine zU ?_
   refine zR trivial (zc hC2 trivial) trivial ?_
   simp [A0J,A0I,Blk.cells,ty,Try.results38,A05,A08,toT,A0e,A0c,A0d,A0a,A0j]
  | true=>
   have e:A02 g=0:=by unfold A02; rw [if_neg (fun q=>q hc),if_pos hb]
   rw [e]
   rw [hb] at hC
   obtain ⟨n,es⟩:=g
   have hC2:ACall Try.prog 60 [tG ⟨n,es⟩] (.tup [A0G true,A0j 0]):=hC
   refine ACall.of_body Try.func38 rfl (by kernel_rfl) ?_
   simp only [entry,Try.ntmps38,tG]
   refine zU ?_
   refine zR trivial (zc hC2 trivial) trivial ?_
   simp [A0J,A0I,Blk.cells,ty,Try.results38,A05,A08,toT,A0e,A0c,A0d,A0a,A0j]
 ·have e:A02 g=checkG g:=if_pos hc
  have hC2:ACall Try.prog 60 [tG g] (.tup [A0G false,A0j (checkG g)]):=by
   rw [decide_eq_false hc] at hC; exact hC
  rw [e]
  clear hC
  generalize checkG g=er at*
  obtain ⟨n,es⟩:=g
  refine ACall.of_body Try.func38 rfl (by kernel_rfl) ?_
  simp only [entry,Try.ntmps38,tG]
  refine zU ?_
  refine zR (zc @hc trivial) (zc hC2 trivial) trivial ?_
  simp [A0J,A0I,Blk.cells,ty,Try.results38,A05,A08,toT,A0e,A0c,A0d,A0a,A0j]
theorem B7L (g:G) (v:Int) (hl:g.es.length≤40):ACall Try.prog 30 [tG g,A0j v] (A0j (A8P g v)):=by
 have hJ:=B0X g hl
 unfold A8P
 by_cases hj:A02 g=0
 ·rw [if_neg (by omega)]
  rw [hj] at hJ
  obtain ⟨n,es⟩:=g
  show ACall _ _ _ (A0j (if 0≤v∧v<n then 0 else 2))
  by_cases h0:v<0
  ·rw [if_neg (by omega)]
   refine ACall.of_body Try.func30 rfl (by kernel_rfl) ?_
   simp only [entry,Try.ntmps30,tG,A0j]
   refine zU ?_
   refine zR (zc @h0 trivial) (zc hJ trivial) trivial ?_
   simp [A0J,A0I,Blk.cells,ty,Try.results30,A05,A08,toT,A0e,A0c,A0d,A0a,A0j]
  ·by_cases h1:v≥n
   ·rw [if_neg (by omega)]
    refine ACall.of_body Try.func30 rfl (by kernel_rfl) ?_
    simp only [entry,Try.ntmps30,tG,A0j]
    refine zU ?_
    refine zR (zc @h0 (zc @h1 trivial)) (zc hJ trivial) trivial ?_
    simp [A0J,A0I,Blk.cells,ty,Try.results30,A05,A08,toT,A0e,A0c,A0d,A0a,A0j]
   ·rw [if_pos (by omega)]
    refine ACall.of_body Try.func30 rfl (by kernel_rfl) ?_
    simp only [entry,Try.ntmps30,tG,A0j]
    refine zU ?_
    refine zR (zc @h0 (zc @h1 trivial)) (zc hJ trivial) trivial ?_
    simp [A0J,A0I,Blk.cells,ty,Try.results30,A05,A08,toT,A0e,A0c,A0d,A0a,A0j]
 ·rw [if_pos hj]
  generalize A02 g=er at*
  obtain ⟨n,es⟩:=g
  refine ACall.of_body Try.func30 rfl (by kernel_rfl) ?_
  simp only [entry,Try.ntmps30,tG,A0j]
  refine zU ?_
  refine zR (zc @hj trivial) (zc hJ trivial) trivial ?_
  simp [A0J,A0I,Blk.cells,ty,Try.results30,A05,A08,toT,A0e,A0c,A0d,A0a,A0j]
noncomputable def A8Q (n:Nat) (es:List E) (v N:Nat):List (List TVal):=(List.range N).map fun k=>[A0j (rkT n es v k),A0j 0]
theorem A4P (n:Nat) (es:List E) (v N:Nat):(A8Q n es v N).length=N:=by simp [A8Q]
theorem A8R {n:Nat} {es:List E} {v N k:Nat} (h:k<N):(A8Q n es v N)[k]? =some [A0j (rkT n es v k),A0j 0]:=by
 unfold A8Q; rw [List.getElem?_map,List.getElem?_range h]; rfl
theorem A8S {n:Nat} {es:List E} {v N k:Nat} {ts:List TVal} (h:(A8Q n es v N)[k]? =some ts):k<N∧ts=[A0j (rkT n es v k),A0j 0]:=by
 have hk:k<N:=by have:=(List.getElem?_eq_some_iff.1 h).1; rw [A4P] at this; exact this
 rw [A8R hk] at h
 cases h
 exact ⟨hk,rfl⟩
theorem B5Q {n:Nat} {es:List E} (h:Sm5 n es) {v:Nat} (hv:v<n) {N:Nat} (hN:N≤30):
  AIterB Try.prog 75 [.rptr [.int .i64 (n:Int),.slice (A0b es)],.rptr [.int .i64 (v:Int)]] (A8Q n es v N):=by
 have h5:=h.n5
 have h1:=h.g.h1
 have hS: ∀k:Nat,k≤30→ACall Try.prog 46 [A0j n,A0j v,A0j k] (.tup [A00 (A4N n v k),A0j 0]):=fun k hk=>B58 n v k h1 (by omega) hv (by omega)
 have hR: ∀k:Nat,k≤30→ACall Try.prog 44 [tG ⟨(n:Int),es⟩,A00 (A4N n v k)] (.tup [A0j (rkT n es v k),A0j 0]):=fun k hk=>B0W h.rk _ (A9N _ _ _) (A9O hv (by omega))
 refine AIterB.of_body Try.func75 rfl (by kernel_rfl) rfl (fun l J Jx hJ hJx hY hNo=> ?_)
 simp only [entry,Try.ntmps75,ofT,A2G,A0s,List.map_cons,List.map_nil,List.length_cons,List.length_nil,Nat.reduceAdd,Nat.reduceSub,List.replicate_succ,List.replicate_zero,List.cons_append,List.nil_append]
 rw [A4P] at hNo ⊢
 refine zR trivial trivial trivial ?_
 refine AWp.loopS (α:=Nat) 35 (fun k=>[(0,.c (.yld l)),(1,.c (.rptr [.int .i64 (n:Int),.slice (A0b es)])),(2,.c (.rptr [.int .i64 (v:Int)])),(4,.c (.int .i64 (k:Int)))]) (fun k=>[.ghost (J k)]) (fun k=>k≤N) (fun k=>N-k) (0) (hk:=A0r.headL 1 35 [0,1,2,4] (zV2 @A0o @A0m)) (h0:=?_) (round:=fun k hI=>?_)
 ·exact Nat.zero_le _
 ·have hk:k≤N:=hI
  clear hI
  by_cases hkl:k<N
  ·have hg:=A8R (n:=n) (es:=es) (v:=v) hkl
   have hSk:=hS k (by omega)
   have hRk:=hR k (by omega)
   clear hS hR
   generalize A4N n v (k:Int)=t at*
   generalize rkT n es v k=r at*
   repeat' (first|((with_reducible refine AWp.seq (AWp.of_reg (id:=6) (AReg.pre 3 (fun K hK=>?_))));simp only [List.take_succ_cons,List.take_zero])|((with_reducible refine AWp.of_reg (id:=6) (AReg.pre 3 (fun K hK=>?_)));simp only [List.take_succ_cons,List.take_zero])|((first|(refine zT ?_;intro K' hK')|(refine zG ?_ ?_<;>(try refine zH ?_)<;>intro hguard<;>(try exact zX)<;>try intro K' hK'))<;>((try simp+contextual only [go_sem]);(repeat' first|(with_reducible refine hK' _ _ ?_;clear hK' K')|((with_reducible first|refine zK hSk ?_|refine zK hRk ?_);try simp+contextual only [go_sem])|exact zY|with_reducible refine And.intro ?_ ?_|(with_reducible intro hpath;try exact zP)|(refine hK' _ _ ?_;clear hK' K')|fail);try refine zS ?_))|(refine zE ?_;refine hK _ _ ?_;clear hK K)|(refine zN ?_;try refine zS ?_)|refine zA ?_|(refine zB ?_;intro K hK)|(refine zC ?_ ?_<;>(try refine zH ?_)<;>intro hcond<;>try exact zX)|fail)
   simp only [List.drop_succ_cons,List.drop_zero]
   refine AReg.yield rfl rfl rfl (by rfl) (by with_unfolding_all rfl) (by simp [B0t]) (hY _ _ hg) (hJ _) hJx ?_ ?_<;>(try refine zS ?_)<;>refine AReg.rest (fun K hK=> ?_)
   ·
    repeat' (first|((first|(refine zT ?_;intro K' hK')|(refine zG ?_ ?_<;>(try refine zH ?_)<;>intro hguard<;>(try exact zX)<;>try intro K' hK'))<;>((try simp+contextual only [go_sem]);(repeat' first|(with_reducible refine hK' _ _ ?_;clear hK' K')|exact zY|with_reducible refine And.intro ?_ ?_|(with_reducible intro hpath;try exact zP)|(refine hK' _ _ ?_;clear hK' K')|fail);try refine zS ?_))|(refine zE ?_;refine hK _ _ ?_;clear hK K)|(refine zN ?_;try refine zS ?_)|refine zA ?_|(refine zB ?_;intro K hK)|(refine zC ?_ ?_<;>(try refine zH ?_)<;>intro hcond<;>try exact zX)|fail)
    refine ⟨k+1,A0r.headN 1 35 [0,1,2,4] (zV2 @A0o @A0m),?_,?_⟩
    ·exact hkl
    ·omega
   ·
    repeat' (first|((first|(refine zT ?_;intro K' hK')|(refine zG ?_ ?_<;>(try refine zH ?_)<;>intro hguard<;>(try exact zX)<;>try intro K' hK'))<;>((try simp+contextual only [go_sem]);(repeat' first|(with_reducible refine hK' _ _ ?_;clear hK' K')|exact zY|with_reducible refine And.intro ?_ ?_|(with_reducible intro hpath;try exact zP)|(refine hK' _ _ ?_;clear hK' K')|fail);try refine zS ?_))|(refine zE ?_;refine hK _ _ ?_;clear hK K)|(refine zN ?_;try refine zS ?_)|refine zA ?_|(refine zB ?_;intro K hK)|(refine zC ?_ ?_<;>(try refine zH ?_)<;>intro hcond<;>try exact zX)|fail)
    exact ⟨True.intro,_,.inr rfl⟩
  ·have ek:k=N:=by omega
   subst ek
   exact AWp.noGhost hNo
theorem B7o (g:G) (v:Int):ACall Try.prog 54 [tG g,A0j v] (.t (.fn 75 [.rptr [.int .i64 g.n,.slice (A0b g.es)],.rptr [.int .i64 v]])):=by
 obtain ⟨n,es⟩:=g
 refine ACall.of_body Try.func54 rfl (by kernel_rfl) ?_
 simp only [entry,Try.ntmps54,tG,A0j]
 refine zU ?_
 refine zR trivial trivial trivial ?_
 simp [A0J,A0I,Blk.cells,ty,Try.results54,A05,A08,toT,A0e,A0c,A0d,A0a]
theorem B0Y {n:Nat} {es:List E} (h:Sm5 n es) {v:Nat} (hv:v<n) {N:Nat} (hN:N≤20):ACall Try.prog 31 [tG ⟨(n:Int),es⟩,A0j v,A0j N] (.tup [A00 (A1b n es v (N+1)),A0j 0]):=by
 have hA:=B7o ⟨(n:Int),es⟩ (v:Int)
 have hIt:=B5Q h hv (N:=N+1) (by omega)
 have hal:=fun k=>A4O n es v k
 have hz:A1b n es v 0=[]:=rfl
 have hsc:=fun k=>B2a n es v k
 refine ACall.of_body Try.func31 rfl (by kernel_rfl) ?_
 simp only [entry,Try.ntmps31,tG,A0j]
 refine zU ?_
 refine zJ (stop 2) trivial trivial trivial trivial ?_
 refine AWp.weak (A0r.openB 4 0 1 rfl rfl (by omega)) ?_
 simp only [List.set_cons_succ,List.set_cons_zero,List.length_cons,List.length_nil,List.length_append,Nat.reduceAdd,List.cons_append,List.nil_append]
 repeat' ((fail_if_success (with_reducible refine AWp.atSeq 99 ?_));(fail_if_success (with_reducible refine AWp.atLast 99 ?_));first|((first|(refine zT ?_;intro K' hK')|(refine zG ?_ ?_<;>(try refine zH ?_)<;>intro hguard<;>(try exact zX)<;>try intro K' hK'))<;>((try simp+contextual only [go_sem,tG,ofT,A2G,A0s,List.map_cons,List.map_nil]);(repeat' first|(with_reducible refine hK' _ _ ?_;clear hK' K')|(with_reducible refine zK hA ?_;try simp+contextual only [go_sem,tG,ofT,A2G,A0s,List.map_cons,List.map_nil])|exact zY|with_reducible refine And.intro ?_ ?_|(with_reducible intro hpath;try exact zP)|(refine hK' _ _ ?_;clear hK' K')|fail);try refine zS ?_))|(refine zE ?_;refine hK _ _ ?_;clear hK K)|(refine zN ?_;try refine zS ?_)|refine zA ?_|(refine zB ?_;intro K hK)|(refine zC ?_ ?_<;>(try refine zH ?_)<;>intro hcond<;>try exact zX)|fail)
 refine AWp.weak (A0r.head (m:=6) (by omega) ((fun t f=>[f,f,f,t,f,t,t,t,t,f,f,f,f,t,f,f,f,f,f,f,f,f,f,f,f,f,f,f]) true false) (by first | rfl | simp [mask]) (by first | rfl | simp) (by (repeat' (first | exact A0n _ | refine A0k ?_ ?_ | refine A0f ?_ ?_ | exact A0i _ | exact True.intro | (show _<_; omega) | (intro c hc; cases hc; done) | (intro c hc; simp only [List.mem_cons,List.not_mem_nil,or_false] at hc; subst hc; first | exact True.intro | (show _<_; omega)) | (intro c hc; simp only [List.mem_cons,List.not_mem_nil,or_false] at hc; rcases hc with rfl | rfl<;>first | exact True.intro | (show _<_; omega))))) (by (repeat' (first | exact A0n _ | exact A0z _ | exact A0i _ | refine And.intro ?_ ?_ | refine A0k ?_ ?_ | refine A0g ?_ ?_ | refine A0f ?_ ?_ | exact True.intro | exact A0o | exact A0m | (show _<_; omega) | exact A0v (fun _=>True.intro) | (intro c hc; cases hc; done) | (intro c hc; simp only [List.mem_cons,List.not_mem_nil,or_false] at hc; subst hc; first | exact True.intro | exact A0o | exact A0m | (show _<_; omega)) | (intro c hc; simp only [List.mem_cons,List.not_mem_nil,or_false] at hc; rcases hc with rfl | rfl<;>first | exact True.intro | exact A0o | exact A0m | (show _<_; omega)))))) (AWp.rangeFuncB (fun k H=>H=[.box [.int .i64 (n:Int),.slice (A0b es) .none],.box [.int .i64 (N:Int)],.box [.nils],.box [.int .i64 0],.box [.slice (A0q (A1b n es v k)) (.chain 5)],.chain (A1b n es v k).length 1]∧(k≤N)) (fun e H=>e= .exit 0∧H=[.box [.int .i64 (n:Int),.slice (A0b es) .none],.box [.int .i64 (N:Int)],.box [.nils],.box [.int .i64 0],.box [.slice (A0q (A1b n es v (N+1))) (.chain 5)],.chain (A1b n es v (N+1)).length 1]) 6 rfl (⟨hIt,fun H q=>by obtain ⟨_,q2⟩:=q; rw [A4P] at q2; omega⟩) (fun k ts hts=>by obtain ⟨_,rfl⟩:=A8S hts; rfl) (by omega) (by (repeat' (first | exact A0n _ | refine A0k ?_ ?_ | refine A0f ?_ ?_ | exact A0i _ | exact True.intro | (show _<_; omega) | (intro c hc; cases hc; done) | (intro c hc; simp only [List.mem_cons,List.not_mem_nil,or_false] at hc; subst hc; first | exact True.intro | (show _<_; omega)) | (intro c hc; simp only [List.mem_cons,List.not_mem_nil,or_false] at hc; rcases hc with rfl | rfl<;>first | exact True.intro | (show _<_; omega))))) (by rintro _ _ ⟨rfl,-⟩; simp) ?_ ?_ (fun l k ts H hts hI=> ?_) (fun H hI=> ?_) (fun e H hX=> ?_))
 ·rintro _ _ ⟨-,rfl⟩; simp
 ·exact ⟨by rw [hz]; rfl,Nat.zero_le _⟩
 ·obtain ⟨rfl,hk⟩:=hI
  obtain ⟨hkl,rfl⟩:=A8S hts
  have hs:=hsc k
  have hl0:=hal k
  have hl1:=hal (k+1)
  generalize rkT n es v k=r at*
  by_cases hkN:k=N
  ·rw [hkN] at hs hl0 hl1 ⊢
   clear hsc hal hIt
   generalize hA1:A1b n es v (N+1)=A1 at*
   generalize A1b n es v N=A0 at*
   have hgt:(N:Int)+1>(N:Int):=by omega
   simp only [mask,A5h,List.zip_cons_cons,List.zip_nil_right,List.zip_nil_left,List.foldl_cons,List.foldl_nil,List.set_cons_succ,List.set_cons_zero,ofT,A2G,A0s,List.map_cons,List.map_nil,ofT,A2G,toT,A08,A0a,A0j,A0G,A4S,tG,A4Z,A00,A3Y]
   repeat' (first|((first|(refine zT ?_;intro K' hK')|(refine zG ?_ ?_<;>(try refine zH ?_)<;>intro hguard<;>(try exact zX)<;>try intro K' hK'))<;>((try simp+contextual only [go_sem,A0l,A1Z,hl0,hgt,List.length_append,List.length_cons,List.length_nil,chunks,List.range,List.range.loop]);(repeat' first|(with_reducible refine hK' _ _ ?_;clear hK' K')|(with_reducible exact A1P (by assumption))|exact zY|with_reducible refine And.intro ?_ ?_|(with_reducible intro hpath;try exact zP)|(refine hK' _ _ ?_;clear hK' K')|fail);try refine zS ?_))|(refine zE ?_;refine hK _ _ ?_;clear hK K)|(refine zN ?_;try refine zS ?_)|refine zA ?_|(refine zB ?_;intro K hK)|(refine zC ?_ ?_<;>(try refine zH ?_)<;>intro hcond<;>try exact zX)|fail)
   rw [←hs]
   refine ⟨⟨_,_⟩,A0r.head2 (m:=6) (by decide) ((fun t f=>[f,f,f,f,f,f,f,f,f,f,f,f,f,f,f,f,f,f,f,f,f,f,f,f,f,f,f,f]) true false) rfl rfl (zV2 @A0o @A0m),?_,?_⟩
   ·rfl
   ·rw [hl1]; rfl
  ·
   have hlt: ¬((k:Int)+1>(N:Int)):=by omega
   clear hsc hal hIt
   generalize hA1:A1b n es v (k+1)=A1 at*
   generalize A1b n es v k=A0 at*
   have hln:A0.length+1=A1.length:=by omega
   simp only [mask,A5h,List.zip_cons_cons,List.zip_nil_right,List.zip_nil_left,List.foldl_cons,List.foldl_nil,List.set_cons_succ,List.set_cons_zero,ofT,A2G,A0s,List.map_cons,List.map_nil,ofT,A2G,toT,A08,A0a,A0j,A0G,A4S,tG,A4Z,A00,A3Y]
   repeat' (first|((first|(refine zT ?_;intro K' hK')|(refine zG ?_ ?_<;>(try refine zH ?_)<;>intro hguard<;>(try exact zX)<;>try intro K' hK'))<;>((try simp+contextual only [go_sem,A0l,A1Z,hl0,hlt,List.length_append,List.length_cons,List.length_nil,chunks,List.range,List.range.loop]);(repeat' first|(with_reducible refine hK' _ _ ?_;clear hK' K')|(with_reducible exact A1P (by assumption))|exact zY|with_reducible refine And.intro ?_ ?_|(with_reducible intro hpath;try exact zP)|(refine hK' _ _ ?_;clear hK' K')|fail);try refine zS ?_))|(refine zE ?_;refine hK _ _ ?_;clear hK K)|(refine zN ?_;try refine zS ?_)|refine zA ?_|(refine zB ?_;intro K hK)|(refine zC ?_ ?_<;>(try refine zH ?_)<;>intro hcond<;>try exact zX)|fail)
   rw [←hs]
   refine ⟨⟨_,_⟩,A0r.head2 (m:=6) (by decide) ((fun t f=>[f,f,f,f,f,f,f,f,f,f,f,f,f,f,f,f,f,f,f,f,f,f,f,f,f,f,f,f]) true false) rfl rfl (zV2 @A0o @A0m),?_,?_⟩
   ·rw [hA1,hl1]; rfl
   ·omega
 ·obtain ⟨-,q⟩:=hI
  rw [A4P] at q
  omega
 ·obtain ⟨rfl,rfl⟩:=hX
  clear hsc hal hIt
  generalize A1b n es v (N+1)=A1 at*
  simp only [mask]
  refine zR trivial trivial trivial ?_
  simp [A0J,A0I,Blk.cells,ty,Try.results31,A05,A08,toT,A0e,A0c,A0d,A0a,A0j,A00]
theorem A8g {n:Nat} {es:List E} (hl:es.length≤40) (hs:A02 ⟨(n:Int),es⟩=0→Sm5 n es) (v N:Int) (hN:N≤11∨12<N):ACall Try.prog 11 [tG ⟨(n:Int),es⟩,A0j v,A0j N] (.tup [A00 (A5a n es v N).1,A0j (A5a n es v N).2]):=by
 have hG:=B7L ⟨(n:Int),es⟩ v hl
 by_cases hv:A8P ⟨(n:Int),es⟩ v=0
 ·obtain ⟨hj,k,rfl,hk⟩:=A9S hv
  by_cases hNr:N<0∨12<N
  ·have e:A5a n es k N=([],2):=by unfold A5a; rw [if_neg (by omega),if_pos hNr]
   rw [e]
   rw [hv] at hG
   by_cases h1:N<0
   ·
    refine ACall.of_body Try.func11 rfl (by kernel_rfl) ?_
    simp only [entry,Try.ntmps11,tG,A0j]
    refine zU ?_
    refine zR (zc @h1 trivial) (zc hG trivial) trivial ?_
    simp [A0J,A0I,Blk.cells,ty,Try.results11,A05,A08,toT,A0e,A0c,A0d,A0a,A0j,A00,A0q]
   ·have h2:N>12:=by omega
    refine ACall.of_body Try.func11 rfl (by kernel_rfl) ?_
    simp only [entry,Try.ntmps11,tG,A0j]
    refine zU ?_
    refine zR (zc @h1 (zc @h2 trivial)) (zc hG trivial) trivial ?_
    simp [A0J,A0I,Blk.cells,ty,Try.results11,A05,A08,toT,A0e,A0c,A0d,A0a,A0j,A00,A0q]
  ·have e:A5a n es k N=(A1b n es k (N.toNat+1),0):=by unfold A5a; rw [if_neg (by omega),if_neg hNr]; rfl
   rw [e]
   rw [hv] at hG
   have h1: ¬N<0:=by omega
   have h2: ¬N>12:=by omega
   have hA:=B0Y (hs hj) hk (N:=N.toNat) (by omega)
   rw [show ((N.toNat:Nat):Int)=N by omega] at hA
   generalize A1b n es k (N.toNat+1)=l at*
   refine ACall.of_body Try.func11 rfl (by kernel_rfl) ?_
   simp only [entry,Try.ntmps11,tG,A0j]
   refine zU ?_
   refine zR (zc @h1 (zc @h2 trivial)) (zc hG (zc hA trivial)) trivial ?_
   simp [A0J,A0I,Blk.cells,ty,Try.results11,A05,A08,toT,A0e,A0c,A0d,A0a,A0j,A00]
 ·have e:A5a n es v N=([],A8P ⟨(n:Int),es⟩ v):=by unfold A5a; rw [if_pos hv]
  rw [e]
  generalize A8P ⟨(n:Int),es⟩ v=er at*
  refine ACall.of_body Try.func11 rfl (by kernel_rfl) ?_
  simp only [entry,Try.ntmps11,tG,A0j]
  refine zU ?_
  refine zR (zc @hv trivial) (zc hG trivial) trivial ?_
  simp [A0J,A0I,Blk.cells,ty,Try.results11,A05,A08,toT,A0e,A0c,A0d,A0a,A0j,A00,A0q]
theorem B0Z {n:Nat} {es:List E} (g:Gok n es) (hs:sizeE es≤1000):ACall Try.prog 35 [tG ⟨(n:Int),es⟩] (.tup [A0j (if 6<sizeE es-n+1 then 0 else sizeE es-n+1),A0j (if 6<sizeE es-n+1 then 12 else 0)]):=by
 obtain ⟨es2,l2,hlim,hc2,hgen,_⟩:=B5I g
 have hl:=g.hl
 have hL:ACall Try.prog 58 [tG ⟨(n:Int),es⟩] (.tup [tG ⟨(n:Int),es2⟩,A0j 0]):=by
  have:=A7Q ⟨(n:Int),es⟩ (by show es.length<_; omega)
  rw [g.hc,hlim] at this; exact this
 have hG:ACall Try.prog 59 [tG ⟨(n:Int),es2⟩] (.tup [A0j (sizeE es-n+1),A0j 0]):=by
  have:=B2y ⟨(n:Int),es2⟩ (by show es2.length<_; omega)
  rw [hc2] at this
  rw [←hgen]; exact this
 clear hlim hc2 hgen
 generalize sizeE es-n+1=gg at*
 by_cases h6:6<gg
 ·rw [if_pos h6,if_pos h6]
  refine ACall.of_body Try.func35 rfl (by kernel_rfl) ?_
  simp only [entry,Try.ntmps35,tG]
  refine zU ?_
  refine zR (zc @h6 trivial) (zc hL (zc hG trivial)) trivial ?_
  simp [A0J,A0I,Blk.cells,ty,Try.results35,A05,A08,toT,A0e,A0c,A0d,A0a,A0j]
 ·rw [if_neg h6,if_neg h6]
  refine ACall.of_body Try.func35 rfl (by kernel_rfl) ?_
  simp only [entry,Try.ntmps35,tG]
  refine zU ?_
  refine zR (zc @h6 trivial) (zc hL (zc hG trivial)) trivial ?_
  simp [A0J,A0I,Blk.cells,ty,Try.results35,A05,A08,toT,A0e,A0c,A0d,A0a,A0j]
theorem A9T {n:Nat} {es:List E} (hl:es.length≤40) (hs:A02 ⟨(n:Int),es⟩=0→Sm5 n es) (v:Int):ACall Try.prog 15 [tG ⟨(n:Int),es⟩,A0j v] (.tup [A00 (A3t n es v).1,A0j (A3t n es v).2]):=by
 have hG:=B7L ⟨(n:Int),es⟩ v hl
 by_cases hv:A8P ⟨(n:Int),es⟩ v=0
 ·obtain ⟨hj,k0,rfl,hk0⟩:=A9S hv
  have h:=hs hj
  have hz:=h.sz
  have hGn:=B0Z h.g (by omega)
  have hpos:=A5r h.g
  have h5:=h.n5
  rw [hv] at hG
  by_cases h6:6<sizeE es-n+1
  ·have e:A3t n es k0=([],12):=by unfold A3t; rw [if_neg (by omega),if_pos h6]
   rw [e]
   rw [if_pos h6,if_pos h6] at hGn
   refine ACall.of_body Try.func15 rfl (by kernel_rfl) ?_
   simp only [entry,Try.ntmps15,tG,A0j]
   refine zU ?_
   refine zR trivial (zc hG (zc hGn trivial)) trivial ?_
   simp [A0J,A0I,Blk.cells,ty,Try.results15,A05,A08,toT,A0e,A0c,A0d,A0a,A0j,A00,A0q]
  ·have e:A3t n es k0=(A1V n es k0,0):=by unfold A3t; rw [if_neg (by omega),if_neg h6]; rfl
   rw [e]
   rw [if_neg h6,if_neg h6] at hGn
   have hf1:(max (2*(sizeE es-n+1)-1) 0).toNat≤20:=by omega
   have hA:=B0Y h hk0 (N:=(max (2*(sizeE es-n+1)-1) 0).toNat) hf1
   have hmx:((max (2*(sizeE es-n+1)-1) 0).toNat:Int)=max 0 (2*(sizeE es-n+1)-1):=by omega
   have hfN:(max (2*(sizeE es-n+1)-1) 0).toNat+1=A2B (sizeE es-n+1):=rfl
   rw [hmx,hfN] at hA
   have hNl:A2B (sizeE es-n+1)≤12:=by unfold A2B; omega
   have hN1:1≤A2B (sizeE es-n+1):=by unfold A2B; omega
   have hNG: ∀k:Nat,1≤k→(k<A2B (sizeE es-n+1)↔(k:Int)<2*(sizeE es-n+1)):=fun k hk=>by unfold A2B; omega
   have hgl2:A1V n es k0=A3B (A1b n es k0 (A2B (sizeE es-n+1))) (A2B (sizeE es-n+1)):=rfl
   rw [hgl2]
   have hlen:=A4O n es k0 (A2B (sizeE es-n+1))
   clear hgl2 hfN hmx hf1 e hs
   generalize A1b n es k0 (A2B (sizeE es-n+1))=l at*
   generalize A2B (sizeE es-n+1)=N at*
   have hGb:0≤sizeE es-n+1∧sizeE es-n+1≤6:=by omega
   generalize sizeE es-n+1=gg at*
   have hgl:=fun k=>A9R l k
   have hg1:A3B l 1=[]:=by unfold A3B A3B; rw [if_neg (by omega)]
   refine ACall.of_body Try.func15 rfl (by kernel_rfl) ?_
   simp only [entry,Try.ntmps15,tG,A0j]
   refine zU ?_
   refine zJ (stop 11) trivial (zc hG (zc hGn (zc hA trivial))) trivial trivial ?_
   refine AWp.weak (A0r.opens ((fun t f=>[f,f,f,f,f,f,f,f,f,f,t,f,f,f,f,f,f,f,f,f,f,f,f,f,f,f,f,f,f,f,f,f,f,f,f,f,f,f,f,f,f,f,f,f,f,f,f,f,f,f,f,f,f,f,f,f,f,f,f,f]) true false) 1 (by first | omega | simp)) ?_
   simp only [A3s,B1r,List.length_cons,List.length_nil,List.length_append,Nat.reduceAdd,List.cons_append,List.nil_append]
   refine zR trivial trivial trivial ?_
   refine AWp.loopS (α:=Nat) 60 (fun k=>[(7,.c (.int .i64 gg)),(9,.c (.slice (A0q l) .none)),(10,.c (.slice (A0q (A3B l k)) (.chain 1))),(11,.c (.int .i64 (k:Int)))]) (fun k=>[.box [.int .i64 (n:Int),.slice (A0b es) .none],.chain (A3B l k).length 1]) (fun k=>1≤k∧k≤N) (fun k=>N-k) (1) (hk:=A0r.headL 2 60 [7,9,10,11] (zV2 @A0o @A0m)) (h0:=?_) (round:=fun k hI=>?_)
   ·exact ⟨Nat.le_refl _,hN1⟩
   ·obtain ⟨hk1,hk⟩:=hI
    by_cases hkl:k<N
    ·have hkI:=(hNG k hk1).1 hkl
     have hg:=A0T (A07 (d:=l) (i:=k) (by omega))
     have hg':=A0T (A07 (d:=l) (i:=k-1) (by omega))
     have hkm:((k:Int)-1).toNat=k-1:=by omega
     have hgn:=hgl k
     have hp:=B7l (l:=l) hk1
     have hn:=B7m (l:=l) (k:=k)
     clear hgl hNG
     generalize l.getD k 0=x at*
     generalize l.getD (k-1) 0=y at*
     generalize hS1:A3B l (k+1)=S1 at*
     generalize A3B l k=S0 at*
     by_cases hxy:x=y
     ·have hp':=hp hxy
      have hln:S1.length=S0.length+1:=by rw [hp']; simp
      refine zRc (zc @hkI (zc @hg (zc @hg' (zc @hkm (zc @hxy (zc @A0l (zc @A1Z (zc @hlen trivial)))))))) trivial @A1P ?_
      rw [←hp']
      refine ⟨k+1,A0r.headF 2 60 [7,9,10,11] (zc @hS1 (zc @hln trivial)) (zV2 @A0o @A0m),?_,?_⟩
      ·exact ⟨by omega,hkl⟩
      ·omega
     ·have hn':=hn hxy
      refine zR (zc @hkI (zc @hg (zc @hg' (zc @hkm (zc @hxy (zc @A0l (zc @hlen trivial))))))) trivial trivial ?_
      refine ⟨k+1,A0r.headF 2 60 [7,9,10,11] (zc @hS1 (zc @hn' trivial)) (zV2 @A0o @A0m),?_,?_⟩
      ·exact ⟨by omega,hkl⟩
      ·omega
    ·have hnl: ¬(k:Int)<2*gg:=fun q=>hkl ((hNG k hk1).2 q)
     have ek:k=N:=by omega
     clear hNG
     rw [ek]
     rw [ek] at hnl
     clear hgl
     generalize A3B l N=S0 at*
     refine zR (zc @hnl trivial) trivial trivial ?_
     simp [A0J,A0I,Blk.cells,ty,Try.results15,A05,A08,toT,A0e,A0c,A0d,A0a,A0j,A00]
 ·have e:A3t n es v=([],A8P ⟨(n:Int),es⟩ v):=by unfold A3t; rw [if_pos hv]
  rw [e]
  generalize A8P ⟨(n:Int),es⟩ v=er at*
  refine ACall.of_body Try.func15 rfl (by kernel_rfl) ?_
  simp only [entry,Try.ntmps15,tG,A0j]
  refine zU ?_
  refine zR (zc @hv trivial) (zc hG trivial) trivial ?_
  simp [A0J,A0I,Blk.cells,ty,Try.results15,A05,A08,toT,A0e,A0c,A0d,A0a,A0j,A00,A0q]
theorem A8T {n:Nat} {es:List E} (hl:es.length≤40) (hs:A02 ⟨(n:Int),es⟩=0→Sm5 n es) (v:Int):ACall Try.prog 17 [tG ⟨(n:Int),es⟩,A0j v] (.tup [A0j (A3u n es v).1,A0j (A3u n es v).2]):=by
 have hGp:=A9T hl hs v
 by_cases he:(A3t n es v).2=0
 ·have e:A3u n es v=(wgt n es v.toNat,0):=by unfold A3u; rw [if_neg (by omega)]
  rw [e]
  have hv:A8P ⟨(n:Int),es⟩ v=0:=by
   refine Classical.byContradiction fun h=> ?_
   unfold A3t at he
   rw [if_pos h] at he
   exact h he
  obtain ⟨hj,k,rfl,hk⟩:=A9S hv
  have h:=hs hj
  have hz:=h.sz
  have hGn:=B0Z h.g (by omega)
  have h6: ¬6<sizeE es-n+1:=fun h=>by
   unfold A3t at he
   rw [if_neg (by omega),if_pos h] at he
   cases he
  rw [if_neg h6,if_neg h6] at hGn
  have hg:A3t n es k=(A1V n es k,0):=by unfold A3t; rw [if_neg (by omega),if_neg h6]; rfl
  rw [hg] at hGp
  have hpos:=A5r h.g
  obtain ⟨b1,b2⟩:=B5O (n:=n) (es:=es) (v:=k) (by omega)
  obtain ⟨t1,t2,t3,t4,t5,t6⟩:=B7n (G:=sizeE es-n+1) (by omega)
  have hw:wgt n es (k:Int).toNat=sumL (A1V n es k)-halfT (sizeE es-n+1):=rfl
  rw [hw]
  have t7: -(sizeE es-n+1)*(sizeE es-n+1+1)= -((sizeE es-n+1)*(sizeE es-n+1+1)):=Int.neg_mul _ _
  rw [t7] at t6
  have h2: ¬(2:Int)=0:=by decide
  have hfin:sumD (A1V n es k) (A1V n es k).length=sumL (A1V n es k):=B5P rfl
  rw [←hfin]
  have hsb:=fun i=>A7d b2 i
  have hs0:sumD (A1V n es k) 0=0:=rfl
  have hsn: ∀i,sumD (A1V n es k) (i+1)=sumD (A1V n es k) i+(A1V n es k).getD i 0:=fun i=>rfl
  have hsd: ∀i,sumR (fun v=>(A1V n es k).getD v 0) i=sumD (A1V n es k) i:=fun i=>rfl
  simp only [hsd] at hsb
  clear hfin hsd hs
  generalize A1V n es k=l at*
  generalize halfT (sizeE es-n+1)=t at*
  generalize sizeE es-n+1=gg at*
  have hz0: -t=sumD l 0-t:=by rw [hs0]; omega
  refine ACall.of_body Try.func17 rfl (by kernel_rfl) ?_
  simp only [entry,Try.ntmps17,tG,A0j]
  refine zU ?_
  refine zR (zc @t6 (zc @t7 (zc @A0l trivial))) (zc hGp (zc hGn trivial)) trivial ?_
  rw [hz0]
  refine AWp.loopS (α:=Nat) 46 (fun i=>[(9,.c (.int .i64 (sumD l i-t))),(35,.c (.slice (A0q l) .none)),(36,.c (.int .i64 (l.length:Int))),(37,.c (.int .i64 (i:Int)))]) (fun i=>[]) (fun i=>i≤l.length) (fun i=>l.length-i) (0) (hk:=A0r.headL 0 46 [9,35,36,37] (zV2 @A0o @A0m)) (h0:=?_) (round:=fun i hI=>?_)
  ·exact Nat.zero_le _
  ·have hi:i≤l.length:=hI
   clear hI
   by_cases hil:i<l.length
   ·have hiI:(i:Int)<(l.length:Int):=by omega
    have hgx:=A0T (A07 (d:=l) (i:=i) hil)
    have hx:=b2 i
    have hsi:=hsb i
    have hnx:=hsn i
    clear hsb hsn
    generalize hN1:sumD l (i+1)=N1 at*
    generalize sumD l i=N0 at*
    generalize l.getD i 0=x at*
    have e3:N0-t+x=N1-t:=by omega
    refine zR (zc @hiI (zc @hgx (zc @e3 (zc @A0l (zc @Nat.zero_add trivial))))) trivial trivial ?_
    refine ⟨i+1,A0r.headF 0 46 [9,35,36,37] (zc @hN1 trivial) (zV2 @A0o @A0m),?_,?_⟩
    ·exact hil
    ·omega
   ·have hnl: ¬(i:Int)<(l.length:Int):=by omega
    have ei:i=l.length:=by omega
    rw [ei]
    rw [ei] at hnl
    clear hsb hsn
    generalize sumD l l.length=S at*
    refine zR (zc @hnl trivial) trivial trivial ?_
    simp [A0J,A0I,Blk.cells,ty,Try.results17,A05,A08,toT,A0e,A0c,A0d,A0a,A0j]
 ·have e:A3u n es v=(0,(A3t n es v).2):=by unfold A3u; rw [if_pos he]
  rw [e]
  generalize A3t n es v=p at*
  obtain ⟨l,er⟩:=p
  simp only at he hGp ⊢
  refine ACall.of_body Try.func17 rfl (by kernel_rfl) ?_
  simp only [entry,Try.ntmps17,tG,A0j]
  refine zU ?_
  refine zR (zc @he trivial) (zc hGp trivial) trivial ?_
  simp [A0J,A0I,Blk.cells,ty,Try.results17,A05,A08,toT,A0e,A0c,A0d,A0a,A0j,A00]
end Go.Proofs.Ytdhfgihnoimoaaa
