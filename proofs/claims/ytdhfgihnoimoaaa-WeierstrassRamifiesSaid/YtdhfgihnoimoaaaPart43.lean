/- A part of the proof. -/
import Derived.Test.YtdhfgihnoimoaaaPart42
import Derived.Test.YtdhfgihnoimoaaaPart37
import Derived.Test.YtdhfgihnoimoaaaLayerE
import Derived.Test.YtdhfgihnoimoaaaLayerC
set_option linter.all false
set_option maxHeartbeats 4000000
set_option maxRecDepth 100000
namespace Go.Proofs.Ytdhfgihnoimoaaa
open Go.Sp
theorem B0Z (g:G) (hl:g.es.length≤40):ACall Try.prog 38 [tG g] (A0g (A0D g)):=by
 have hC:=A3n g (by omega)
 by_cases hc:checkG g=0
 ·rw [hc] at hC
  cases hb:connB g with
  | false=>
   have e:A0D g=13:=by unfold A0D; rw [if_neg (fun q=>q hc),if_neg (by rw [hb]; simp)]
   rw [e]
   rw [hb] at hC
   obtain ⟨n,es⟩:=g
   have hC2:ACall Try.prog 60 [tG ⟨n,es⟩] (.tup [A09 false,A0g 0]):=hC
   refine ACall.of_body Try.func38 rfl (by kernel_rfl) ?_
   simp only [entry,Try.ntmps38,tG]
   refine zU ?_
   refine zR trivial (zc hC2 trivial) trivial ?_
   simp [A0E,A0C,Blk.cells,ty,Try.results38,A0y,A05,toT,A0e,A0c,A0d,A0a,A0g]
  | true=>
   have e:A0D g=0:=by unfold A0D; rw [if_neg (fun q=>q hc),if_pos hb]
   rw [e]
   rw [hb] at hC
   obtain ⟨n,es⟩:=g
   have hC2:ACall Try.prog 60 [tG ⟨n,es⟩] (.tup [A09 true,A0g 0]):=hC
   refine ACall.of_body Try.func38 rfl (by kernel_rfl) ?_
   simp only [entry,Try.ntmps38,tG]
   refine zU ?_
   refine zR trivial (zc hC2 trivial) trivial ?_
   simp [A0E,A0C,Blk.cells,ty,Try.results38,A0y,A05,toT,A0e,A0c,A0d,A0a,A0g]
 ·have e:A0D g=checkG g:=if_pos hc
  have hC2:ACall Try.prog 60 [tG g] (.tup [A09 false,A0g (checkG g)]):=by
   rw [decide_eq_false hc] at hC; exact hC
  rw [e]
  clear hC
  generalize checkG g=er at*
  obtain ⟨n,es⟩:=g
  refine ACall.of_body Try.func38 rfl (by kernel_rfl) ?_
  simp only [entry,Try.ntmps38,tG]
  refine zU ?_
  refine zR (zc @hc trivial) (zc hC2 trivial) trivial ?_
  simp [A0E,A0C,Blk.cells,ty,Try.results38,A0y,A05,toT,A0e,A0c,A0d,A0a,A0g]
theorem B7J (g:G) (v:Int) (hl:g.es.length≤40):ACall Try.prog 30 [tG g,A0g v] (A0g (A8O g v)):=by
 have hJ:=B0Z g hl
 unfold A8O
 by_cases hj:A0D g=0
 ·rw [if_neg (by omega)]
  rw [hj] at hJ
  obtain ⟨n,es⟩:=g
  show ACall _ _ _ (A0g (if 0≤v∧v<n then 0 else 2))
  by_cases h0:v<0
  ·rw [if_neg (by omega)]
   refine ACall.of_body Try.func30 rfl (by kernel_rfl) ?_
   simp only [entry,Try.ntmps30,tG,A0g]
   refine zU ?_
   refine zR (zc @h0 trivial) (zc hJ trivial) trivial ?_
   simp [A0E,A0C,Blk.cells,ty,Try.results30,A0y,A05,toT,A0e,A0c,A0d,A0a,A0g]
  ·by_cases h1:v≥n
   ·rw [if_neg (by omega)]
    refine ACall.of_body Try.func30 rfl (by kernel_rfl) ?_
    simp only [entry,Try.ntmps30,tG,A0g]
    refine zU ?_
    refine zR (zc @h0 (zc @h1 trivial)) (zc hJ trivial) trivial ?_
    simp [A0E,A0C,Blk.cells,ty,Try.results30,A0y,A05,toT,A0e,A0c,A0d,A0a,A0g]
   ·rw [if_pos (by omega)]
    refine ACall.of_body Try.func30 rfl (by kernel_rfl) ?_
    simp only [entry,Try.ntmps30,tG,A0g]
    refine zU ?_
    refine zR (zc @h0 (zc @h1 trivial)) (zc hJ trivial) trivial ?_
    simp [A0E,A0C,Blk.cells,ty,Try.results30,A0y,A05,toT,A0e,A0c,A0d,A0a,A0g]
 ·rw [if_pos hj]
  generalize A0D g=er at*
  obtain ⟨n,es⟩:=g
  refine ACall.of_body Try.func30 rfl (by kernel_rfl) ?_
  simp only [entry,Try.ntmps30,tG,A0g]
  refine zU ?_
  refine zR (zc @hj trivial) (zc hJ trivial) trivial ?_
  simp [A0E,A0C,Blk.cells,ty,Try.results30,A0y,A05,toT,A0e,A0c,A0d,A0a,A0g]
noncomputable def A8P (n:Nat) (es:List E) (v N:Nat):List (List TVal):=(List.range N).map fun k=>[A0g (rkT n es v k),A0g 0]
theorem A4P (n:Nat) (es:List E) (v N:Nat):(A8P n es v N).length=N:=by simp [A8P]
theorem A8Q {n:Nat} {es:List E} {v N k:Nat} (h:k<N):(A8P n es v N)[k]? =some [A0g (rkT n es v k),A0g 0]:=by
 unfold A8P; rw [List.getElem?_map,List.getElem?_range h]; rfl
theorem A8R {n:Nat} {es:List E} {v N k:Nat} {ts:List TVal} (h:(A8P n es v N)[k]? =some ts):k<N∧ts=[A0g (rkT n es v k),A0g 0]:=by
 have hk:k<N:=by have:=(List.getElem?_eq_some_iff.1 h).1; rw [A4P] at this; exact this
 rw [A8Q hk] at h
 cases h
 exact ⟨hk,rfl⟩
theorem B5T {n:Nat} {es:List E} (h:Sm5 n es) {v:Nat} (hv:v<n) {N:Nat} (hN:N≤30):
  AIterB Try.prog 75 [.rptr [.int .i64 (n:Int),.slice (A0b es)],.rptr [.int .i64 (v:Int)]] (A8P n es v N):=by
 have h5:=h.n5
 have h1:=h.g.h1
 have hS: ∀k:Nat,k≤30→ACall Try.prog 46 [A0g n,A0g v,A0g k] (.tup [A0m (A9U n v k),A0g 0]):=fun k hk=>B5B n v k h1 (by omega) hv (by omega)
 have hR: ∀k:Nat,k≤30→ACall Try.prog 44 [tG ⟨(n:Int),es⟩,A0m (A9U n v k)] (.tup [A0g (rkT n es v k),A0g 0]):=fun k hk=>B0X h.rk _ (A9H _ _ _) (A9I hv (by omega))
 refine AIterB.of_body Try.func75 rfl (by kernel_rfl) rfl (fun l J Jx hJ hJx hY hNo=> ?_)
 simp only [entry,Try.ntmps75,ofT,A3i,A0x,List.map_cons,List.map_nil,List.length_cons,List.length_nil,Nat.reduceAdd,Nat.reduceSub,List.replicate_succ,List.replicate_zero,List.cons_append,List.nil_append]
 rw [A4P] at hNo ⊢
 refine zR trivial trivial trivial ?_
 refine AWp.loopS (α:=Nat) 35 (fun k=>[(0,.c (.yld l)),(1,.c (.rptr [.int .i64 (n:Int),.slice (A0b es)])),(2,.c (.rptr [.int .i64 (v:Int)])),(4,.c (.int .i64 (k:Int)))]) (fun k=>[.ghost (J k)]) (fun k=>k≤N) (fun k=>N-k) (0) (hk:=A0s.headL 1 35 [0,1,2,4] (zV2 @A0o @A0j)) (h0:=?_) (round:=fun k hI=>?_)
 ·exact Nat.zero_le _
 ·have hk:k≤N:=hI
  clear hI
  by_cases hkl:k<N
  ·have hg:=A8Q (n:=n) (es:=es) (v:=v) hkl
   have hSk:=hS k (by omega)
   have hRk:=hR k (by omega)
   clear hS hR
   generalize A9U n v (k:Int)=t at*
   generalize rkT n es v k=r at*
   repeat' (first|((with_reducible refine AWp.seq (AWp.of_reg (id:=6) (AReg.pre 3 (fun K hK=>?_))));simp only [List.take_succ_cons,List.take_zero])|((with_reducible refine AWp.of_reg (id:=6) (AReg.pre 3 (fun K hK=>?_)));simp only [List.take_succ_cons,List.take_zero])|((first|(refine zT ?_;intro K' hK')|(refine zG ?_ ?_<;>(try refine zH ?_)<;>intro hguard<;>(try exact zX)<;>try intro K' hK'))<;>((try simp+contextual only [go_sem]);(repeat' first|(with_reducible refine hK' _ _ ?_;clear hK' K')|((with_reducible first|refine zK hSk ?_|refine zK hRk ?_);try simp+contextual only [go_sem])|exact zY|with_reducible refine And.intro ?_ ?_|(with_reducible intro hpath;try exact zP)|(refine hK' _ _ ?_;clear hK' K')|fail);try refine zS ?_))|(refine zE ?_;refine hK _ _ ?_;clear hK K)|(refine zN ?_;try refine zS ?_)|refine zA ?_|(refine zB ?_;intro K hK)|(refine zC ?_ ?_<;>(try refine zH ?_)<;>intro hcond<;>try exact zX)|fail)
   simp only [List.drop_succ_cons,List.drop_zero]
   refine AReg.yield rfl rfl rfl (by rfl) (by with_unfolding_all rfl) (by simp [B1u]) (hY _ _ hg) (hJ _) hJx ?_ ?_<;>(try refine zS ?_)<;>refine AReg.rest (fun K hK=> ?_)
   ·
    repeat' (first|((first|(refine zT ?_;intro K' hK')|(refine zG ?_ ?_<;>(try refine zH ?_)<;>intro hguard<;>(try exact zX)<;>try intro K' hK'))<;>((try simp+contextual only [go_sem]);(repeat' first|(with_reducible refine hK' _ _ ?_;clear hK' K')|exact zY|with_reducible refine And.intro ?_ ?_|(with_reducible intro hpath;try exact zP)|(refine hK' _ _ ?_;clear hK' K')|fail);try refine zS ?_))|(refine zE ?_;refine hK _ _ ?_;clear hK K)|(refine zN ?_;try refine zS ?_)|refine zA ?_|(refine zB ?_;intro K hK)|(refine zC ?_ ?_<;>(try refine zH ?_)<;>intro hcond<;>try exact zX)|fail)
    refine ⟨k+1,A0s.headN 1 35 [0,1,2,4] (zV2 @A0o @A0j),?_,?_⟩
    ·exact hkl
    ·omega
   ·
    repeat' (first|((first|(refine zT ?_;intro K' hK')|(refine zG ?_ ?_<;>(try refine zH ?_)<;>intro hguard<;>(try exact zX)<;>try intro K' hK'))<;>((try simp+contextual only [go_sem]);(repeat' first|(with_reducible refine hK' _ _ ?_;clear hK' K')|exact zY|with_reducible refine And.intro ?_ ?_|(with_reducible intro hpath;try exact zP)|(refine hK' _ _ ?_;clear hK' K')|fail);try refine zS ?_))|(refine zE ?_;refine hK _ _ ?_;clear hK K)|(refine zN ?_;try refine zS ?_)|refine zA ?_|(refine zB ?_;intro K hK)|(refine zC ?_ ?_<;>(try refine zH ?_)<;>intro hcond<;>try exact zX)|fail)
    exact ⟨True.intro,_,.inr rfl⟩
  ·have ek:k=N:=by omega
   subst ek
   exact AWp.noGhost hNo
theorem B7n (g:G) (v:Int):ACall Try.prog 54 [tG g,A0g v] (.t (.fn 75 [.rptr [.int .i64 g.n,.slice (A0b g.es)],.rptr [.int .i64 v]])):=by
 obtain ⟨n,es⟩:=g
 refine ACall.of_body Try.func54 rfl (by kernel_rfl) ?_
 simp only [entry,Try.ntmps54,tG,A0g]
 refine zU ?_
 refine zR trivial trivial trivial ?_
 simp [A0E,A0C,Blk.cells,ty,Try.results54,A0y,A05,toT,A0e,A0c,A0d,A0a]
end Go.Proofs.Ytdhfgihnoimoaaa
