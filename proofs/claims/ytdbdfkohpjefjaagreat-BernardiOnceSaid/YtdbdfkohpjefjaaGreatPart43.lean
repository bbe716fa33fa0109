/- A part of the proof. -/
import Derived.Test.YtdbdfkohpjefjaaGreatPart39
set_option linter.all false
set_option maxHeartbeats 4000000
set_option maxRecDepth 100000
namespace Go.Proofs.YtdbdfkohpjefjaaGreat
open Go.Sp
def A3n (r:R) (t:List Int):List Int:=B5x r t (2*(endsL r.es).length)
theorem A4m (r:R) (t:List Int):(A3n r t).length=r.n.toNat:=B1i _ _ _
theorem A72 (r:R) (t:List Int) (hs:RSm r) (htl:t.length<2^40):ACall Tryz.prog 14 [tR r,A0m t] (.tup [A0m (if B0t r t≠0 then [] else A3n r t),A0k (B0t r t)]):=by
 have hg:=A9g r t hs htl;by_cases h0:B0t r t=0
 ·rw [if_neg (by omega),h0];rw [h0] at hg;have hw:=A25 r t hs (A69 h0).1 htl;change ACall _ _ _ (A0m (A3n r t)) at hw;generalize A3n r t=T at*;obtain ⟨n,es,ar⟩:=r;refine ACall.of_body Tryz.func14 rfl (by kernel_rfl) ?_;simp only [entry,Tryz.ntmps14,tR];refine zU ?_;refine zR Qw9 (zc hg (zc hw Qw9)) Qw9 ?_;simp [A0y,A0x,Blk.cells,ty,Tryz.results14,A0s,A0t,toT,A0d,A0b,A0c,A0a,A0k,A0m]
 ·rw [if_pos h0];generalize B0t r t=e at*;obtain ⟨n,es,ar⟩:=r;refine ACall.of_body Tryz.func14 rfl (by kernel_rfl) ?_;simp only [entry,Tryz.ntmps14,tR];refine zU ?_;refine zR (zc @h0 Qw9) (zc hg Qw9) Qw9 ?_;simp [A0y,A0x,Blk.cells,ty,Tryz.results14,A0s,A0t,toT,A0d,A0b,A0c,A0a,A0k,A0m,A0p]
def C2j (r:R) (q:List Int->Bool) (Ts:List (List Int)):Option (List Int):=Ts.find? fun t=>q (A3n r t)
def B6T (o:Option (List Int)):List Int:=o.getD []
def B6U (o:Option (List Int)):Int:=if o.isSome then 0 else 6
theorem C0d (r:R) (hs:RSm r) (Ts:List (List Int)) (hl:Ts.length<2^30) (hT: ∀t,t∈Ts->RTree r t∧t.length<2^40) (f:Nat) (a:List Tree) (q:List Int->Bool)
  (hq: ∀t,t∈Ts->ACall Tryz.prog f [A0m (A3n r t),.t (.rptr a)] (A0z (q (A3n r t)))):
  ACall Tryz.prog 65 [tR r,A0R Ts,.t (.fn f [.rptr a])] (.tup [A0m (B6T (C2j r q Ts)),A0k (B6U (C2j r q Ts))]):=by
 have hD:=fun t (ht:t∈Ts)=>A25 r t hs (hT t ht).1 (hT t ht).2;have hdef: ∀t,B5x r t (2*(endsL r.es).length)=A3n r t:=fun _=>rfl;simp only [hdef] at hD;unfold C2j;generalize A3n r=dF at*;clear hT hs hdef;obtain ⟨n,es,ar⟩:=r;refine ACall.of_body Tryz.func65 rfl (by kernel_rfl) ?_;simp only [entry,Tryz.ntmps65,tR,A0R];refine zU ?_;refine zR (zc @A0o Qw9) Qw9 Qw9 ?_;refine AWp.loopS (α:=Nat) 23 (fun i=>[(2,.c (.fn f [.tree (.rptr a)])),(3,.c (.ptr 0 0)),(10,.c (.slice (A00 Ts) .none)),(11,.c (.int .i64 (Ts.length:Int))),(12,.c (.int .i64 (i:Int)))]) (fun i=>[.box [.int .i64 n,.slice (A0f es) .none,.slice (A00 ar) .none]]) (fun i=>i≤Ts.length∧(Ts.take i).find? (fun t=>q (dF t))=none) (fun i=>Ts.length-i) (0) (hk:=Weak.headL 1 23 [2,3,10,11,12] zW) (h0:=?_) (round:=fun i hI=>?_)
 ·exact ⟨Xj _,rfl⟩
 ·obtain ⟨hi,hI2⟩:=hI;by_cases hlt:i<Ts.length
  ·have hltI:(i:Int)<(Ts.length:Int):=by omega
   have e0:=Qq hlt;have e1:=A0W e0;have hm:=Xw hlt;have d1:=hD _ hm;have d2:=hq _ hm;have t1:Ts.take (i+1)=Ts.take i++[Ts[i]]:=XX hlt;have t2:Ts=Ts.take i++Ts[i]::Ts.drop (i+1):=by rw [List.getElem_cons_drop,WJ]
   generalize Ts[i]=x at*;by_cases hx:q (dF x)=true
   ·rw [hx] at d2;have hf:Ts.find? (fun t=>q (dF t))=some x:=by
     rw [t2,List.find?_append,hI2,List.find?_cons,hx]; rfl
    rw [hf];refine zR (zc @hltI (zc @A0o (zc @e1 Qw9))) (zc d1 (zc d2 Qw9)) Qw9 ?_;simp [A0y,A0x,Blk.cells,ty,Tryz.results65,A0s,A0t,toT,A0d,A0b,A0c,A0a,A0k,A0m,B6T,B6U]
   ·have hx:q (dF x)=false:=by simpa using hx
    rw [hx] at d2;refine zR (zc @hltI (zc @A0o (zc @e1 Qw9))) (zc d1 (zc d2 Qw9)) Qw9 ?_;refine ⟨i+1,Weak.headN 1 23 [2,3,10,11,12] zW,?_,?_⟩
    ·exact ⟨hlt,by rw [t1,List.find?_append,hI2,List.find?_cons,hx]; rfl⟩
    ·omega
  ·have ei:i=Ts.length:=by omega
   rw [ei,Zy] at hI2;rw [hI2];have hnl: ¬((i:Int)<(Ts.length:Int)):=by omega
   refine zR (zc @hnl (zc @A0o Qw9)) Qw9 Qw9 ?_;simp [A0y,A0x,Blk.cells,ty,Tryz.results65,A0s,A0t,toT,A0d,A0b,A0c,A0a,A0k,A0m,A0p,B6T,B6U]
theorem C0e (r:R) (hs:RSm r) (Ts:List (List Int)) (hl:Ts.length<2^30) (hT: ∀t,t∈Ts->RTree r t∧t.length<2^40) (f:Nat) (a b:List Tree) (q:List Int->Bool)
  (hq: ∀t,t∈Ts->ACall Tryz.prog f [A0m (A3n r t),.t (.rptr a),.t (.rptr b)] (A0z (q (A3n r t)))):
  ACall Tryz.prog 65 [tR r,A0R Ts,.t (.fn f [.rptr a,.rptr b])] (.tup [A0m (B6T (C2j r q Ts)),A0k (B6U (C2j r q Ts))]):=by
 have hD:=fun t (ht:t∈Ts)=>A25 r t hs (hT t ht).1 (hT t ht).2;have hdef: ∀t,B5x r t (2*(endsL r.es).length)=A3n r t:=fun _=>rfl;simp only [hdef] at hD;unfold C2j;generalize A3n r=dF at*;clear hT hs hdef;obtain ⟨n,es,ar⟩:=r;refine ACall.of_body Tryz.func65 rfl (by kernel_rfl) ?_;simp only [entry,Tryz.ntmps65,tR,A0R];refine zU ?_;refine zR (zc @A0o Qw9) Qw9 Qw9 ?_;refine AWp.loopS (α:=Nat) 23 (fun i=>[(2,.c (.fn f [.tree (.rptr a),.tree (.rptr b)])),(3,.c (.ptr 0 0)),(10,.c (.slice (A00 Ts) .none)),(11,.c (.int .i64 (Ts.length:Int))),(12,.c (.int .i64 (i:Int)))]) (fun i=>[.box [.int .i64 n,.slice (A0f es) .none,.slice (A00 ar) .none]]) (fun i=>i≤Ts.length∧(Ts.take i).find? (fun t=>q (dF t))=none) (fun i=>Ts.length-i) (0) (hk:=Weak.headL 1 23 [2,3,10,11,12] zW) (h0:=?_) (round:=fun i hI=>?_)
 ·exact ⟨Xj _,rfl⟩
 ·obtain ⟨hi,hI2⟩:=hI;by_cases hlt:i<Ts.length
  ·have hltI:(i:Int)<(Ts.length:Int):=by omega
   have e0:=Qq hlt;have e1:=A0W e0;have hm:=Xw hlt;have d1:=hD _ hm;have d2:=hq _ hm;have t1:Ts.take (i+1)=Ts.take i++[Ts[i]]:=XX hlt;have t2:Ts=Ts.take i++Ts[i]::Ts.drop (i+1):=by rw [List.getElem_cons_drop,WJ]
   generalize Ts[i]=x at*;by_cases hx:q (dF x)=true
   ·rw [hx] at d2;have hf:Ts.find? (fun t=>q (dF t))=some x:=by
     rw [t2,List.find?_append,hI2,List.find?_cons,hx]; rfl
    rw [hf];refine zR (zc @hltI (zc @A0o (zc @e1 Qw9))) (zc d1 (zc d2 Qw9)) Qw9 ?_;simp [A0y,A0x,Blk.cells,ty,Tryz.results65,A0s,A0t,toT,A0d,A0b,A0c,A0a,A0k,A0m,B6T,B6U]
   ·have hx:q (dF x)=false:=by simpa using hx
    rw [hx] at d2;refine zR (zc @hltI (zc @A0o (zc @e1 Qw9))) (zc d1 (zc d2 Qw9)) Qw9 ?_;refine ⟨i+1,Weak.headN 1 23 [2,3,10,11,12] zW,?_,?_⟩
    ·exact ⟨hlt,by rw [t1,List.find?_append,hI2,List.find?_cons,hx]; rfl⟩
    ·omega
  ·have ei:i=Ts.length:=by omega
   rw [ei,Zy] at hI2;rw [hI2];have hnl: ¬((i:Int)<(Ts.length:Int)):=by omega
   refine zR (zc @hnl (zc @A0o Qw9)) Qw9 Qw9 ?_;simp [A0y,A0x,Blk.cells,ty,Tryz.results65,A0s,A0t,toT,A0d,A0b,A0c,A0a,A0k,A0m,A0p,B6T,B6U]
end Go.Proofs.YtdbdfkohpjefjaaGreat
