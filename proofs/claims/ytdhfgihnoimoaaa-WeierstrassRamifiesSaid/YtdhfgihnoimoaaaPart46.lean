/- A part of the proof. -/
import Derived.Test.YtdhfgihnoimoaaaLayerC
import Derived.Test.YtdhfgihnoimoaaaPart45
import Derived.Test.YtdhfgihnoimoaaaPart38
import Derived.Test.YtdhfgihnoimoaaaLayerD
set_option linter.all false
set_option maxHeartbeats 4000000
set_option maxRecDepth 100000
namespace Go.Proofs.Ytdhfgihnoimoaaa
open Go.Sp
theorem B3Z {m:Nat} {f:FuncId} {a b c:Tree}:A9h m (.c (.fn f [.tree a,.tree b,.tree c])):=by
 intro x hx
 simp only [List.mem_cons,List.not_mem_nil,or_false] at hx
 rcases hx with rfl | rfl | rfl<;>exact True.intro
theorem B86 {n:Nat} {es:List E} (h12:n≤12) (p:Nat→Bool) (hk: ∀(H:List Blk) (v:Nat),v<n→ACallH Try.prog 40 H [.c (.int .i64 (v:Int)),.c (.rptr [.int .i64 (n:Int),.slice (A0b es)])] H (.tup [.c (.bool (p v)),.c (.int .i64 0)])):
  ACallX Try.prog 39 [] [ofT (tG ⟨(n:Int),es⟩),ofT (.t (.fn 40 [.rptr [.int .i64 (n:Int),.slice (A0b es)]]))] (.tup [A0m (A2A p n),A0g 0]):=by
 have hfl:=fun k=>A5Z p k
 have hz:A2A p 0=[]:=rfl
 have hall: ∀l:List Int,(A0p l).all A2V=true:=fun l=>by rw [List.all_eq_true]; intro r hr; obtain ⟨x,_,rfl⟩:=List.mem_map.1 hr; rfl
 refine ACallX.of_body Try.func39 rfl (by kernel_rfl) (by simp [isMap]) ?_
 simp only [entry,Try.ntmps39,ofT,A3i,A0x,List.map_cons,List.map_nil,List.length_cons,List.length_nil,Nat.reduceAdd,Nat.reduceSub,List.replicate_succ,List.replicate_zero,List.cons_append,List.nil_append,tG]
 refine FWp.of_awp ?_
 refine zJ (stop 2) trivial trivial trivial trivial ?_
 refine AWp.weak (A0s.opens ((fun t f=>[f,f,f,f,f,f,t,f,f,f,f,f,f,f,f,f,f,f,f,f,f,f,f,f,f,f,f,f,f,f,f]) true false) 1 (by first | omega | simp)) ?_
 simp only [A2U,A9k,List.length_cons,List.length_nil,List.length_append,Nat.reduceAdd,List.cons_append,List.nil_append]
 refine zR trivial trivial trivial ?_
 refine AWp.loopS (α:=Nat) 31 (fun k=>[(1,.c (.fn 40 [.tree (.rptr [.int .i64 (n:Int),.slice (A0b es)])])),(2,.c (.ptr 0 0)),(6,.c (.slice (A0p (A2A p k)) (.chain 1))),(11,.c (.int .i64 (n:Int))),(12,.c (.int .i64 (k:Int)))]) (fun k=>[.box [.int .i64 (n:Int),.slice (A0b es) .none],.chain (A2A p k).length 1]) (fun k=>k≤n) (fun k=>n-k) (0) (hk:=A0s.headL 2 31 [1,2,6,11,12] (zV3 @A0o @B3Z @A0j)) (h0:=?_) (round:=fun k hI=>?_)
 ·exact Nat.zero_le _
 ·have hk2:k≤n:=hI
  clear hI
  by_cases hkl:k<n
  ·have hkI:(k:Int)<(n:Int):=by omega
   have hkk:=fun H=>hk H k hkl
   have hlk:=hfl k
   have hp1:=A9L (p:=p) (k:=k)
   have hp0:=A9M (p:=p) (k:=k)
   clear hk hfl
   cases hpk:p k with
   | true=>
    have hs1:=hp1 hpk
    rw [hpk] at hkk
    generalize hS1:A2A p (k+1)=S1 at*
    generalize A2A p k=S0 at*
    have hln:S1.length=S0.length+1:=by rw [hs1]; simp
    refine zJc trivial (zc @hkI (zc @A0f (zc @A1G trivial))) trivial (zc @hkk trivial) @A1w ?_
    rw [←hs1]
    refine ⟨k+1,A0s.headF 2 31 [1,2,6,11,12] (zc @hS1 (zc @hln trivial)) (zV3 @A0o @B3Z @A0j),?_,?_⟩
    ·exact hkl
    ·omega
   | false=>
    have hs0:=hp0 hpk
    rw [hpk] at hkk
    generalize hS1:A2A p (k+1)=S1 at*
    generalize A2A p k=S0 at*
    refine zJ trivial (zc @hkI trivial) trivial (zc @hkk trivial) trivial ?_
    refine ⟨k+1,A0s.headF 2 31 [1,2,6,11,12] (zc @hS1 (zc @hs0 trivial)) (zV3 @A0o @B3Z @A0j),?_,?_⟩
    ·exact hkl
    ·omega
  ·have hnl: ¬(k:Int)<(n:Int):=by omega
   have ek:k=n:=by omega
   rw [ek]
   rw [ek] at hnl
   clear hk hfl
   generalize A2A p n=S0 at*
   have hfr:=hall S0
   rw [List.all_eq_true] at hfr
   refine zR (zc @hnl trivial) trivial trivial ?_
   simp [B7R,B44,Blk.cells,ty,Try.results39,A0y,A05,toT,A6C,A0a,Tree.flat,A0m,A0g]
   rw [if_pos hfr]; rfl
theorem B87 {n:Nat} {es:List E} (r:Int) (d:List Int) (h12:n≤12) (p:Nat→Bool) (hk: ∀(H:List Blk) (v:Nat),v<n→ACallH Try.prog 45 H [.c (.int .i64 (v:Int)),.c (.rptr [.int .i64 (n:Int),.slice (A0b es)]),.c (.rptr [.int .i64 r]),.c (.rptr [.slice (A0p d)])] H (.tup [.c (.bool (p v)),.c (.int .i64 0)])):
  ACallX Try.prog 39 [] [ofT (tG ⟨(n:Int),es⟩),ofT (.t (.fn 45 [.rptr [.int .i64 (n:Int),.slice (A0b es)],.rptr [.int .i64 r],.rptr [.slice (A0p d)]]))] (.tup [A0m (A2A p n),A0g 0]):=by
 have hfl:=fun k=>A5Z p k
 have hz:A2A p 0=[]:=rfl
 have hall: ∀l:List Int,(A0p l).all A2V=true:=fun l=>by rw [List.all_eq_true]; intro r hr; obtain ⟨x,_,rfl⟩:=List.mem_map.1 hr; rfl
 refine ACallX.of_body Try.func39 rfl (by kernel_rfl) (by simp [isMap]) ?_
 simp only [entry,Try.ntmps39,ofT,A3i,A0x,List.map_cons,List.map_nil,List.length_cons,List.length_nil,Nat.reduceAdd,Nat.reduceSub,List.replicate_succ,List.replicate_zero,List.cons_append,List.nil_append,tG]
 refine FWp.of_awp ?_
 refine zJ (stop 2) trivial trivial trivial trivial ?_
 refine AWp.weak (A0s.opens ((fun t f=>[f,f,f,f,f,f,t,f,f,f,f,f,f,f,f,f,f,f,f,f,f,f,f,f,f,f,f,f,f,f,f]) true false) 1 (by first | omega | simp)) ?_
 simp only [A2U,A9k,List.length_cons,List.length_nil,List.length_append,Nat.reduceAdd,List.cons_append,List.nil_append]
 refine zR trivial trivial trivial ?_
 refine AWp.loopS (α:=Nat) 31 (fun k=>[(1,.c (.fn 45 [.tree (.rptr [.int .i64 (n:Int),.slice (A0b es)]),.tree (.rptr [.int .i64 r]),.tree (.rptr [.slice (A0p d)])])),(2,.c (.ptr 0 0)),(6,.c (.slice (A0p (A2A p k)) (.chain 1))),(11,.c (.int .i64 (n:Int))),(12,.c (.int .i64 (k:Int)))]) (fun k=>[.box [.int .i64 (n:Int),.slice (A0b es) .none],.chain (A2A p k).length 1]) (fun k=>k≤n) (fun k=>n-k) (0) (hk:=A0s.headL 2 31 [1,2,6,11,12] (zV3 @A0o @B3Z @A0j)) (h0:=?_) (round:=fun k hI=>?_)
 ·exact Nat.zero_le _
 ·have hk2:k≤n:=hI
  clear hI
  by_cases hkl:k<n
  ·have hkI:(k:Int)<(n:Int):=by omega
   have hkk:=fun H=>hk H k hkl
   have hlk:=hfl k
   have hp1:=A9L (p:=p) (k:=k)
   have hp0:=A9M (p:=p) (k:=k)
   clear hk hfl
   cases hpk:p k with
   | true=>
    have hs1:=hp1 hpk
    rw [hpk] at hkk
    generalize hS1:A2A p (k+1)=S1 at*
    generalize A2A p k=S0 at*
    have hln:S1.length=S0.length+1:=by rw [hs1]; simp
    refine zJc trivial (zc @hkI (zc @A0f (zc @A1G trivial))) trivial (zc @hkk trivial) @A1w ?_
    rw [←hs1]
    refine ⟨k+1,A0s.headF 2 31 [1,2,6,11,12] (zc @hS1 (zc @hln trivial)) (zV3 @A0o @B3Z @A0j),?_,?_⟩
    ·exact hkl
    ·omega
   | false=>
    have hs0:=hp0 hpk
    rw [hpk] at hkk
    generalize hS1:A2A p (k+1)=S1 at*
    generalize A2A p k=S0 at*
    refine zJ trivial (zc @hkI trivial) trivial (zc @hkk trivial) trivial ?_
    refine ⟨k+1,A0s.headF 2 31 [1,2,6,11,12] (zc @hS1 (zc @hs0 trivial)) (zV3 @A0o @B3Z @A0j),?_,?_⟩
    ·exact hkl
    ·omega
  ·have hnl: ¬(k:Int)<(n:Int):=by omega
   have ek:k=n:=by omega
   rw [ek]
   rw [ek] at hnl
   clear hk hfl
   generalize A2A p n=S0 at*
   have hfr:=hall S0
   rw [List.all_eq_true] at hfr
   refine zR (zc @hnl trivial) trivial trivial ?_
   simp [B7R,B44,Blk.cells,ty,Try.results39,A0y,A05,toT,A6C,A0a,Tree.flat,A0m,A0g]
   rw [if_pos hfr]; rfl
theorem B4a {n:Nat} {es:List E} (hl:es.length≤40) (hs:A0D ⟨(n:Int),es⟩=0→Sm5 n es) (hj:A0D ⟨(n:Int),es⟩=0) (h6: ¬6<sizeE es-n+1) {v:Nat} (hv:v<n):
  ACall Try.prog 40 [A0g v,.t (.rptr [.int .i64 (n:Int),.slice (A0b es)])] (.tup [A09 (wvP n es v),A0g 0]):=by
 have hW:=A8S hl hs v
 have hg:A3u n es v=(A2d n es v,0):=by unfold A3u; rw [if_neg (by rw [B9x hj hv]; simp),if_neg h6]; rfl
 have hw:A3v n es v=(wgt n es v,0):=by unfold A3v; rw [hg,if_neg (by simp)]; rfl
 rw [hw] at hW
 have hp:wvP n es v=decide (wgt n es v>0):=rfl
 rw [hp]
 clear hg hw hp hs
 generalize wgt n es v=w at*
 refine ACall.of_body Try.func40 rfl (by kernel_rfl) ?_
 simp only [entry,Try.ntmps40,A0g]
 refine zU ?_
 repeat' ((fail_if_success (with_reducible refine AWp.atSeq 99 ?_));(fail_if_success (with_reducible refine AWp.atLast 99 ?_));first|((first|(refine zT ?_;intro K' hK')|(refine zG ?_ ?_<;>(try refine zH ?_)<;>intro hguard<;>(try exact zX)<;>try intro K' hK'))<;>((try simp+contextual only [go_sem,tG]);(repeat' first|(with_reducible refine hK' _ _ ?_;clear hK' K')|(with_reducible refine zK hW ?_;try simp+contextual only [go_sem,tG])|exact zY|with_reducible refine And.intro ?_ ?_|(with_reducible intro hpath;try exact zP)|(refine hK' _ _ ?_;clear hK' K')|fail);try refine zS ?_))|(refine zE ?_;refine hK _ _ ?_;clear hK K)|(refine zN ?_;try refine zS ?_)|refine zA ?_|(refine zB ?_;intro K hK)|(refine zC ?_ ?_<;>(try refine zH ?_)<;>intro hcond<;>try exact zX)|fail)
 simp [A0E,A0C,Blk.cells,ty,Try.results40,A0y,A05,toT,A0e,A0c,A0d,A0a,A09,A0g]
theorem A6O {n:Nat} {es:List E} (hl:es.length≤40) (hs:A0D ⟨(n:Int),es⟩=0→Sm5 n es) (hG:A0D ⟨(n:Int),es⟩=0→sizeE es-n+1≤6):ACall Try.prog 19 [tG ⟨(n:Int),es⟩] (.tup [A0m (A6N n es).1,A0g (A6N n es).2]):=by
 have hJ:=B0Z ⟨(n:Int),es⟩ hl
 by_cases hj:A0D ⟨(n:Int),es⟩=0
 ·have h6: ¬6<sizeE es-n+1:=by have:=hG hj; omega
  have e:A6N n es=(A2A (wvP n es) n,0):=by unfold A6N; rw [if_neg (by omega),if_neg h6]
  rw [e]
  have hX:=B86 (n:=n) (es:=es) (by have:=(hs hj).n5; omega) (wvP n es) (fun H v hv=>(B4a hl hs hj h6 hv).h (H:=H) (args:=[.c (.int .i64 (v:Int)),.c (.rptr [.int .i64 (n:Int),.slice (A0b es)])]) rfl)
  have hF:ACallH Try.prog 39 [.box [.int .i64 (n:Int),.slice (A0b es) .none]] [.agg [.int .i64 (n:Int),.slice (A0b es) .none],.c (.fn 40 [.ptr 0 0])] [.box [.int .i64 (n:Int),.slice (A0b es) .none]] (.tup [.c (.slice (A0p (A2A (wvP n es) n)) .none),.c (.int .i64 0)]):=
   ACallX.h0 (ts:=[tG ⟨(n:Int),es⟩,.t (.fn 40 [.rptr [.int .i64 (n:Int),.slice (A0b es)]])]) hX (by with_unfolding_all rfl)
  rw [hj] at hJ
  clear hX hs hG
  generalize A2A (wvP n es) n=L at*
  refine ACall.of_body Try.func19 rfl (by kernel_rfl) ?_
  simp only [entry,Try.ntmps19,tG]
  refine zU ?_
  refine zJ trivial trivial (zc hJ trivial) (zc hF trivial) trivial ?_
  simp [A0E,A0C,Blk.cells,ty,Try.results19,A0y,A05,toT,A0e,A0c,A0d,A0a,A0g,A0m]
 ·have e:A6N n es=([],A0D ⟨(n:Int),es⟩):=by unfold A6N; rw [if_pos hj]
  rw [e]
  clear hs hG
  generalize A0D ⟨(n:Int),es⟩=er at*
  refine ACall.of_body Try.func19 rfl (by kernel_rfl) ?_
  simp only [entry,Try.ntmps19,tG,A0g]
  refine zU ?_
  refine zR (zc @hj trivial) (zc hJ trivial) trivial ?_
  simp [A0E,A0C,Blk.cells,ty,Try.results19,A0y,A05,toT,A0e,A0c,A0d,A0a,A0g,A0m,A0p]
noncomputable def B2j (n:Nat) (es:List E) (d:List Int) (r:Int) (v:Nat):Bool:=B3U n es (A7h d (A9U n v (r+1)))
noncomputable def rkL (n:Nat) (es:List E) (d:List Int):Int:=rkD n (mulE es) fun v=>d.getD v 0
noncomputable def B1d (n:Nat) (es:List E) (d:List Int):List Int×Int:=if A3t ⟨(n:Int),es⟩ d≠0 then ([],A3t ⟨(n:Int),es⟩ d) else if rkL n es d<0 then ([],0) else (A2A (B2j n es d (rkL n es d)) n,0)
structure Dv5 (n:Nat) (es:List E) (d:List Int):Prop where
 s:Sm5 n es
 dl:d.length=n
 db:bndL 100 d
 dd:sumD d n≤5
theorem Dv5.rk {n:Nat} {es:List E} {d:List Int} (h:Dv5 n es d): -1≤rkL n es d∧rkL n es d≤5:=by
 refine ⟨A44 _,?_⟩
 by_cases h0:0≤rkL n es d
 ·have:=B5k h.s.g.hM (by have:=h.s.g.h1; omega) h0
  have h2:=h.dd
  have e:sumD d n=sumR (fun v=>d.getD v 0) n:=rfl
  show rkD n (mulE es) (fun v=>d.getD v 0)≤5
  omega
 ·omega
theorem B88 {n:Nat} {es:List E} {d:List Int} (h:Dv5 n es d) {r:Int} (hr:0≤r∧r≤5) {v:Nat} (hv:v<n):
  ACall Try.prog 45 [A0g v,.t (.rptr [.int .i64 (n:Int),.slice (A0b es)]),.t (.rptr [.int .i64 r]),.t (.rptr [.slice (A0p d)])] (.tup [A09 (B2j n es d r v),A0g 0]):=by
 have h5:=h.s.n5
 have h1:=h.s.g.h1
 have hS:=B5B n v (r+1) h1 (by omega) hv (by omega)
 have ht:(List.replicate n (0:Int)).set v (r+1)=A9U n v (r+1):=rfl
 rw [ht] at hS
 have htb:bndL 6 (A9U n v (r+1)):=A9I hv (by omega)
 have hmb:bndL 106 (A7h d (A9U n v (r+1))):=A9G h.db htb
 have hml:(A7h d (A9U n v (r+1))).length=n:=by rw [A5S]; exact h.dl
 have hSub:=B9q d (A9U n v (r+1)) n h1 (by omega) h.dl (A9H _ _ _) (A0t h.db (by decide)) (A0t htb (by decide)) (fun u hu=>by
  have q1:=h.db u
  have q2:=htb u
  omega)
 rw [B0V h.dl] at hSub
 obtain ⟨b,R,S,w1,-,-,-,-,-,-,-,hW,-⟩:=A8j h.s.g (h.s.rk.dok hml (A0t hmb (by decide)))
 have hb:B2j n es d r v=b:=by
  unfold B2j
  rw [Bool.eq_iff_iff,w1]
  exact A5Y
 rw [hb]
 clear hb w1 hmb htb h hml
 generalize A7h d (A9U n v (r+1))=m at*
 generalize A9U n v (r+1)=t at*
 refine ACall.of_body Try.func45 rfl (by kernel_rfl) ?_
 simp only [entry,Try.ntmps45,A0g]
 refine zU ?_
 repeat' ((fail_if_success (with_reducible refine AWp.atSeq 99 ?_));(fail_if_success (with_reducible refine AWp.atLast 99 ?_));first|((first|(refine zT ?_;intro K' hK')|(refine zG ?_ ?_<;>(try refine zH ?_)<;>intro hguard<;>(try exact zX)<;>try intro K' hK'))<;>((try simp+contextual only [go_sem,tG]);(repeat' first|(with_reducible refine hK' _ _ ?_;clear hK' K')|((with_reducible first|refine zK hS ?_|refine zK hSub ?_|refine zK hW ?_);try simp+contextual only [go_sem,tG])|exact zY|with_reducible refine And.intro ?_ ?_|(with_reducible intro hpath;try exact zP)|(refine hK' _ _ ?_;clear hK' K')|fail);try refine zS ?_))|(refine zE ?_;refine hK _ _ ?_;clear hK K)|(refine zN ?_;try refine zS ?_)|refine zA ?_|(refine zB ?_;intro K hK)|(refine zC ?_ ?_<;>(try refine zH ?_)<;>intro hcond<;>try exact zX)|fail)
 simp [A0E,A0C,Blk.cells,ty,Try.results45,A0y,A05,toT,A0e,A0c,A0d,A0a,A09,A0g]
theorem B1e {n:Nat} {es:List E} (hl:es.length≤40) {d:List Int} (hdl:d.length<2^40) (hD:A3t ⟨(n:Int),es⟩ d=0→Dv5 n es d):ACall Try.prog 24 [tG ⟨(n:Int),es⟩,A0m d] (.tup [A0m (B1d n es d).1,A0g (B1d n es d).2]):=by
 by_cases he:A3t ⟨(n:Int),es⟩ d=0
 ·have h:=hD he
  have hR:=B0X h.s.rk d h.dl (A0t h.db (by decide))
  have hrk:=h.rk
  have er:rkD n (mulE es) (fun v=>d.getD v 0)=rkL n es d:=rfl
  rw [er] at hR
  by_cases hneg:rkL n es d<0
  ·have e:B1d n es d=([],0):=by unfold B1d; rw [if_neg (by omega),if_pos hneg]
   rw [e]
   generalize rkL n es d=r at*
   refine ACall.of_body Try.func24 rfl (by kernel_rfl) ?_
   simp only [entry,Try.ntmps24,tG,A0m]
   refine zU ?_
   refine zR (zc @hneg trivial) (zc hR trivial) trivial ?_
   simp [A0E,A0C,Blk.cells,ty,Try.results24,A0y,A05,toT,A0e,A0c,A0d,A0a,A0g,A0m,A0p]
  ·have e:B1d n es d=(A2A (B2j n es d (rkL n es d)) n,0):=by unfold B1d; rw [if_neg (by omega),if_neg hneg]
   rw [e]
   have h5:=h.s.n5
   have hX:=B87 (n:=n) (es:=es) (rkL n es d) d (by omega) (B2j n es d (rkL n es d)) (fun H v hv=>(B88 h (by omega) hv).h (H:=H) (args:=[.c (.int .i64 (v:Int)),.c (.rptr [.int .i64 (n:Int),.slice (A0b es)]),.c (.rptr [.int .i64 (rkL n es d)]),.c (.rptr [.slice (A0p d)])]) rfl)
   have hF: ∀rr:Int,rkL n es d=rr→ACallH Try.prog 39 [.box [.int .i64 (n:Int),.slice (A0b es) .none],.box [.slice (A0p d) .none],.box [.int .i64 rr]] [.agg [.int .i64 (n:Int),.slice (A0b es) .none],.c (.fn 45 [.ptr 0 0,.ptr 2 0,.ptr 1 0])] [.box [.int .i64 (n:Int),.slice (A0b es) .none],.box [.slice (A0p d) .none],.box [.int .i64 rr]] (.tup [.c (.slice (A0p (A2A (B2j n es d (rkL n es d)) n)) .none),.c (.int .i64 0)]):=fun rr hrr=>by
    rw [←hrr]
    exact ACallX.h0 (ts:=[tG ⟨(n:Int),es⟩,.t (.fn 45 [.rptr [.int .i64 (n:Int),.slice (A0b es)],.rptr [.int .i64 (rkL n es d)],.rptr [.slice (A0p d)]])]) hX (by with_unfolding_all rfl)
   have hF2:=hF _ rfl
   clear hX hF e
   generalize A2A (B2j n es d (rkL n es d)) n=L at*
   generalize rkL n es d=r at*
   refine ACall.of_body Try.func24 rfl (by kernel_rfl) ?_
   simp only [entry,Try.ntmps24,tG,A0m]
   refine zU ?_
   refine zJ trivial (zc @hneg trivial) (zc hR trivial) (zc hF2 trivial) trivial ?_
   simp [A0E,A0C,Blk.cells,ty,Try.results24,A0y,A05,toT,A0e,A0c,A0d,A0a,A0g,A0m]
 ·have e:B1d n es d=([],A3t ⟨(n:Int),es⟩ d):=by unfold B1d; rw [if_pos he]
  rw [e]
  have hR:=B2S ⟨(n:Int),es⟩ d hl hdl he
  clear hD e
  generalize A3t ⟨(n:Int),es⟩ d=er at*
  refine ACall.of_body Try.func24 rfl (by kernel_rfl) ?_
  simp only [entry,Try.ntmps24,tG,A0m]
  refine zU ?_
  refine zR (zc @he trivial) (zc hR trivial) trivial ?_
  simp [A0E,A0C,Blk.cells,ty,Try.results24,A0y,A05,toT,A0e,A0c,A0d,A0a,A0g,A0m,A0p]
theorem B1f {n:Nat} {es:List E} (hl:es.length≤40) {d:List Int} (hdl:d.length<2^40) (hD:A3t ⟨(n:Int),es⟩ d=0→Dv5 n es d):ACall Try.prog 25 [tG ⟨(n:Int),es⟩,A0m d] (.tup [A0m (B1d n es d).1,A0g (B1d n es d).2]):=by
 have hR:=B7o hl hdl (n:=n) (es:=es) (d:=d) (fun he=>by
  have h:=hD he
  have h2:=h.s.n5
  have h3:=h.s.sz
  exact ⟨h.s.g,by omega,by omega,h.dl,A0t h.db (by decide),by have:=h.dd; omega⟩)
 by_cases he:A3t ⟨(n:Int),es⟩ d=0
 ·have h:=hD he
  have hrk:=h.rk
  rw [he,if_neg (by omega)] at hR
  have er:rkD n (mulE es) (fun v=>d.getD v 0)=rkL n es d:=rfl
  rw [er] at hR
  by_cases hneg:rkL n es d<0
  ·have e:B1d n es d=([],0):=by unfold B1d; rw [if_neg (by omega),if_pos hneg]
   rw [e]
   generalize rkL n es d=r at*
   refine ACall.of_body Try.func25 rfl (by kernel_rfl) ?_
   simp only [entry,Try.ntmps25,tG,A0m]
   refine zU ?_
   refine zR (zc @hneg trivial) (zc hR trivial) trivial ?_
   simp [A0E,A0C,Blk.cells,ty,Try.results25,A0y,A05,toT,A0e,A0c,A0d,A0a,A0g,A0m,A0p]
  ·have e:B1d n es d=(A2A (B2j n es d (rkL n es d)) n,0):=by unfold B1d; rw [if_neg (by omega),if_neg hneg]
   rw [e]
   have hg:=h.s.g
   have hn5:=h.s.n5
   have hsz:=h.s.sz
   have h1:=hg.h1
   have hdl2:=h.dl
   have hdb:=h.db
   have hlb: ∀v,v<n→bndL 110 (d.set v (d.getD v 0-rkL n es d-1)):=fun v hv=>A3S (A0t hdb (by decide)) v (by have:=hdb v; omega)
   have hsum: ∀v,v<n→sumD (d.set v (d.getD v 0-rkL n es d-1)) n≤30:=fun v hv=>by
    have h2:sumD (d.set v (d.getD v 0-rkL n es d-1)) n≤sumD d n:=A1s fun u hu=>by
     rw [A08 _ _ _ _ (by omega)]
     split
     ·rename_i e; rw [e]; omega
     ·exact Int.le_refl _
    have:=h.dd
    omega
   have hO: ∀(v:Nat),v<n→ ∀(H:List Blk) (x:ACell),A0e H x=some (.slice (A0p (d.set v (d.getD v 0-rkL n es d-1))))→ACallH Try.prog 50 H [.agg [.int .i64 (n:Int),.slice (A0b es) .none],.c x] H (.c (.int .i64 (rkL n es (d.set v (d.getD v 0-rkL n es d-1))))):=fun v hv H x hx=>by
    refine ACall.hb (B9w hg (by omega) (by omega) (by rw [List.length_set]; exact hdl2) (A0t (hlb v hv) (by decide)) (hsum v hv)) ?_ rfl
    simp only [List.mapM_cons,List.mapM_nil,toT,hx,Option.map_some]; rfl
   have hP: ∀v,v<n→B2j n es d (rkL n es d) v=decide (rkL n es (d.set v (d.getD v 0-rkL n es d-1))≥0):=fun v hv=>by
    rw [Bool.eq_iff_iff,decide_eq_true_eq]
    unfold B2j
    rw [A5Y]
    have:rkL n es (d.set v (d.getD v 0-rkL n es d-1))≥0↔win n (mulE es) fun u=>(d.set v (d.getD v 0-rkL n es d-1)).getD u 0:=B06 hg.hM (by omega)
    rw [this]
    refine A1E fun u hu=> ?_
    rw [A7i _ _ (by omega),B2T n v _ hv,A08 _ _ _ _ (by omega)]
    split
    ·rename_i e; rw [e]; omega
    ·omega
   have hrb: ∀v,v<n→ -1≤rkL n es (d.set v (d.getD v 0-rkL n es d-1)):=fun v hv=>A44 _
   have hfl:=fun k=>A5Z (B2j n es d (rkL n es d)) k
   have hz:A2A (B2j n es d (rkL n es d)) 0=[]:=rfl
   have hst:=fun v=>A2z d v (d.getD v 0-rkL n es d-1)
   have hrl:(A0p d).length=n:=by rw [A0f]; exact hdl2
   have hrk1: ∀r,r∈A0p d→r.length=1:=fun r hr=>A1w hr
   have hflat:flatRows (A0p d)=iC d:=A35 d
   clear hD hlb hsum e h er
   generalize hp:B2j n es d (rkL n es d)=p at*
   clear hp
   generalize rkL n es d=r at*
   refine ACall.of_body Try.func25 rfl (by kernel_rfl) ?_
   simp only [entry,Try.ntmps25,tG,A0m]
   refine zU ?_
   refine zJ (stop 7) (zc @hneg trivial) (zc hR trivial) trivial trivial ?_
   refine AWp.weak (A0s.opens ((fun t f=>[f,f,f,f,f,f,f,f,t,f,f,f,f,f,f,f,f,f,f,f,f,f,f,f,f,f,f,f,f,f,f,f,f,f,f,f,f,f,f,f,f,f,f,f,f,f,f,f,f,f]) true false) 1 (by first | omega | simp)) ?_
   simp only [A2U,A9k,List.length_cons,List.length_nil,List.length_append,Nat.reduceAdd,List.cons_append,List.nil_append]
   refine zR trivial trivial trivial ?_
   refine AWp.loopS (α:=Nat) 50 (fun v=>[(1,.c (.slice (A0p d) .none)),(2,.c (.ptr 0 0)),(6,.c (.int .i64 r)),(8,.c (.slice (A0p (A2A p v)) (.chain 1))),(9,.c (.int .i64 (v:Int)))]) (fun v=>[.box [.int .i64 (n:Int),.slice (A0b es) .none],.chain (A2A p v).length 1]) (fun v=>v≤n) (fun v=>n-v) (0) (hk:=A0s.headL 2 50 [1,2,6,8,9] (zV2 @A0o @A0j)) (h0:=?_) (round:=fun v hI=>?_)
   ·exact Nat.zero_le _
   ·have hv:v≤n:=hI
    clear hI
    by_cases hvl:v<n
    ·have hvI:(v:Int)<(n:Int):=by omega
     have hOv:=hO v hvl [.box [.int .i64 (n:Int),.slice (A0b es) .none],.chain (A2A p v).length 1,.box (iC (d.set v (d.getD v 0-r-1)))] (.ref 2 1 0 n n) (A4X (by rw [List.length_set]; exact hdl2) rfl)
     have hPv:=hP v hvl
     have hrbv:=hrb v hvl
     have hlv:=hfl v
     have hp1:=A9L (p:=p) (k:=v)
     have hp0:=A9M (p:=p) (k:=v)
     have gv:=A1J (A0u (d:=d) (i:=v) (by omega))
     have bv:=hdb v
     have sv:=hst v
     clear hO hP hrb hfl hst hdb
     generalize rkL n es (d.set v (d.getD v 0-r-1))=rv at*
     generalize d.set v (d.getD v 0-r-1)=dv at*
     generalize d.getD v 0=y at*
     generalize hS1:A2A p (v+1)=S1 at*
     generalize A2A p v=S0 at*
     repeat' (first|((with_reducible refine AWp.seq (AWp.of_reg (id:=10) (AReg.pre 2 (fun K hK=>?_))));simp only [List.take_succ_cons,List.take_zero])|((with_reducible refine AWp.of_reg (id:=10) (AReg.pre 2 (fun K hK=>?_)));simp only [List.take_succ_cons,List.take_zero])|((first|(refine zT ?_;intro K' hK')|(refine zG ?_ ?_<;>(try refine zH ?_)<;>intro hguard<;>(try exact zX)<;>try intro K' hK'))<;>((try simp+contextual only [go_sem,hvI]);(repeat' first|(with_reducible refine hK' _ _ ?_;clear hK' K')|exact zY|with_reducible refine And.intro ?_ ?_|(with_reducible intro hpath;try exact zP)|(refine hK' _ _ ?_;clear hK' K')|fail);try refine zS ?_))|(refine zE ?_;refine hK _ _ ?_;clear hK K)|(refine zN ?_;try refine zS ?_)|refine zA ?_|(refine zB ?_;intro K hK)|(refine zC ?_ ?_<;>(try refine zH ?_)<;>intro hcond<;>try exact zX)|fail)
     simp only [List.drop_succ_cons,List.drop_zero]
     refine AReg.step rfl rfl (A34 (e:=3) (e2:=3) (k:=1) (z:= .int .i64 0) (by':=8) (rows:=A0p d) _ _ _ _ rfl (by simp only [ty]) (by simp only [ty]) (by simp only [ty]) (by decide) (by simp only [ty]) rfl (by simp only [ty]) rfl rfl hrk1 (by omega) (by omega) (by omega)) ?_
     refine AReg.rest (fun K hK=> ?_)
     simp only [hflat,hrl]
     by_cases hge:rv≥0
     ·rw [decide_eq_true hge] at hPv
      have hs1:=hp1 hPv
      have hln:S1.length=S0.length+1:=by rw [hs1]; simp
      refine zJc trivial (zc @hvI (zc @gv (zc @sv (zc @hge (zc @A0F (zc @hdl2 (zc @A0f (zc @A1G (zc @Nat.zero_add trivial))))))))) trivial (zc hOv trivial) @A1w ?_
      rw [←hs1]
      refine ⟨v+1,A0s.headF 2 50 [1,2,6,8,9] (zc @hS1 (zc @hln trivial)) (zV2 @A0o @A0j),?_,?_⟩
      ·exact hvl
      ·omega
     ·rw [decide_eq_false hge] at hPv
      have hs0:=hp0 hPv
      refine zJ trivial (zc @hvI (zc @gv (zc @sv (zc @hge (zc @A0F (zc @hdl2 (zc @Nat.zero_add trivial))))))) trivial (zc hOv trivial) trivial ?_
      refine ⟨v+1,A0s.headF 2 50 [1,2,6,8,9] (zc @hS1 (zc @hs0 trivial)) (zV2 @A0o @A0j),?_,?_⟩
      ·exact hvl
      ·omega
    ·have hnl: ¬(v:Int)<(n:Int):=by omega
     have ev:v=n:=by omega
     rw [ev]
     rw [ev] at hnl
     clear hO hP hrb hfl hst
     generalize A2A p n=S0 at*
     refine zR (zc @hnl trivial) trivial trivial ?_
     simp [A0E,A0C,Blk.cells,ty,Try.results25,A0y,A05,toT,A0e,A0c,A0d,A0a,A0g,A0m]
 ·have e:B1d n es d=([],A3t ⟨(n:Int),es⟩ d):=by unfold B1d; rw [if_pos he]
  rw [e]
  rw [if_pos he] at hR
  clear hD e
  generalize A3t ⟨(n:Int),es⟩ d=er at*
  refine ACall.of_body Try.func25 rfl (by kernel_rfl) ?_
  simp only [entry,Try.ntmps25,tG,A0m]
  refine zU ?_
  refine zR (zc @he trivial) (zc hR trivial) trivial ?_
  simp [A0E,A0C,Blk.cells,ty,Try.results25,A0y,A05,toT,A0e,A0c,A0d,A0a,A0g,A0m,A0p]
end Go.Proofs.Ytdhfgihnoimoaaa
