/- A part of the proof. -/
import Derived.Test.YtdbdfkohpjefjaaGreatPart25
set_option linter.all false
set_option maxHeartbeats 4000000
set_option maxRecDepth 100000
namespace Go.Proofs.YtdbdfkohpjefjaaGreat
open Go.Sp
def A4f (r:R) (t:List Int):List Int:=B6x r t (2*(endsL r.es).length)
def A7a (r:R) (t:List Int):(A4f r t).length=r.n.toNat:=B2c _ _ _
def B3N (r:R) (t:List Int) (hs:RSm r) (htl:t.length<2^40):ACall Tryz.prog 14 [tR r,A0k t] (.tup [A0k (if B3Q r t≠0 then [] else A4f r t),A0j (B3Q r t)]):=by
 have hg:=A9G r t hs htl;by_cases h0:B3Q r t=0
 ·rw [if_neg (by omega),h0];rw [h0] at hg;have hw:=A2E r t hs (B2b h0).1 htl;change ACall _ _ _ (A0k (A4f r t)) at hw;generalize A4f r t=T at*;obtain ⟨n,es,ar⟩:=r;refine ACall.of_body Tryz.func14 rfl (by kernel_rfl) ?_;simp only [entry,Tryz.ntmps14,tR];refine zU ?_;refine zR Qv5 (zc hg (zc hw Qv5)) Qv5 ?_;simp [A0s,A0r,Blk.cells,ty,Tryz.results14,A0o,A0p,toT,A0d,A0b,A0c,A0a,A0j,A0k]
 ·rw [if_pos h0];generalize B3Q r t=e at*;obtain ⟨n,es,ar⟩:=r;refine ACall.of_body Tryz.func14 rfl (by kernel_rfl) ?_;simp only [entry,Tryz.ntmps14,tR];refine zU ?_;refine zR (zc @h0 Qv5) (zc hg Qv5) Qv5 ?_;simp [A0s,A0r,Blk.cells,ty,Tryz.results14,A0o,A0p,toT,A0d,A0b,A0c,A0a,A0j,A0k,A0l]
def C3D (r:R) (q:List Int->Bool) (Ts:List (List Int)):Option (List Int):=Ts.find? fun t=>q (A4f r t)
def B7Z (o:Option (List Int)):List Int:=o.getD []
def B8a (o:Option (List Int)):Int:=if o.isSome then 0 else 6
def C17 (r:R) (hs:RSm r) (Ts:List (List Int)) (hl:Ts.length<2^30) (hT: ∀t,t∈Ts->RTree r t∧t.length<2^40) (f:Nat) (a:List Tree) (q:List Int->Bool)
  (hq: ∀t,t∈Ts->ACall Tryz.prog f [A0k (A4f r t),.t (.rptr a)] (A0q (q (A4f r t)))):
  ACall Tryz.prog 65 [tR r,A05 Ts,.t (.fn f [.rptr a])] (.tup [A0k (B7Z (C3D r q Ts)),A0j (B8a (C3D r q Ts))]):=by
 have hD:=fun t (ht:t∈Ts)=>A2E r t hs (hT t ht).1 (hT t ht).2;have hdef: ∀t,B6x r t (2*(endsL r.es).length)=A4f r t:=fun _=>rfl;simp only [hdef] at hD;unfold C3D;generalize A4f r=dF at*;clear hT hs hdef;obtain ⟨n,es,ar⟩:=r;refine ACall.of_body Tryz.func65 rfl (by kernel_rfl) ?_;simp only [entry,Tryz.ntmps65,tR,A05];refine zU ?_;refine zR (zc @A0i Qv5) Qv5 Qv5 ?_;refine AWp.loopS (α:=Nat) 23 (fun i=>[(2,.c (.fn f [.tree (.rptr a)])),(3,.c (.ptr 0 0)),(10,.c (.slice (A0n Ts) .none)),(11,.c (.int .i64 (Ts.length:Int))),(12,.c (.int .i64 (i:Int)))]) (fun i=>[.box [.int .i64 n,.slice (A0f es) .none,.slice (A0n ar) .none]]) (fun i=>i≤Ts.length∧(Ts.take i).find? (fun t=>q (dF t))=none) (fun i=>Ts.length-i) (0) (hk:=Weak.headL 1 23 [2,3,10,11,12] zW) (h0:=?_) (round:=fun i hI=>?_)
 ·exact ⟨Xj _,rfl⟩
 ·obtain ⟨hi,hI2⟩:=hI;by_cases hlt:i<Ts.length
  ·have hltI:(i:Int)<(Ts.length:Int):=by omega
   have e0:=Qq hlt;have e1:=A0D e0;have hm:=Xw hlt;have d1:=hD _ hm;have d2:=hq _ hm;have t1:Ts.take (i+1)=Ts.take i++[Ts[i]]:=Xy hlt;have t2:Ts=Ts.take i++Ts[i]::Ts.drop (i+1):=by rw [List.getElem_cons_drop,WJ]
   generalize Ts[i]=x at*;by_cases hx:q (dF x)=true
   ·rw [hx] at d2;have hf:Ts.find? (fun t=>q (dF t))=some x:=by
     rw [t2,List.find?_append,hI2,List.find?_cons,hx]; rfl
    rw [hf];refine zR (zc @hltI (zc @A0i (zc @e1 Qv5))) (zc d1 (zc d2 Qv5)) Qv5 ?_;simp [A0s,A0r,Blk.cells,ty,Tryz.results65,A0o,A0p,toT,A0d,A0b,A0c,A0a,A0j,A0k,B7Z,B8a]
   ·have hx:q (dF x)=false:=by simpa using hx
    rw [hx] at d2;refine zR (zc @hltI (zc @A0i (zc @e1 Qv5))) (zc d1 (zc d2 Qv5)) Qv5 ?_;refine ⟨i+1,Weak.headN 1 23 [2,3,10,11,12] zW,?_,?_⟩
    ·exact ⟨hlt,by rw [t1,List.find?_append,hI2,List.find?_cons,hx]; rfl⟩
    ·omega
  ·have ei:i=Ts.length:=by omega
   rw [ei,Zz] at hI2;rw [hI2];have hnl: ¬((i:Int)<(Ts.length:Int)):=by omega
   refine zR (zc @hnl (zc @A0i Qv5)) Qv5 Qv5 ?_;simp [A0s,A0r,Blk.cells,ty,Tryz.results65,A0o,A0p,toT,A0d,A0b,A0c,A0a,A0j,A0k,A0l,B7Z,B8a]
def C18 (r:R) (hs:RSm r) (Ts:List (List Int)) (hl:Ts.length<2^30) (hT: ∀t,t∈Ts->RTree r t∧t.length<2^40) (f:Nat) (a b:List Tree) (q:List Int->Bool)
  (hq: ∀t,t∈Ts->ACall Tryz.prog f [A0k (A4f r t),.t (.rptr a),.t (.rptr b)] (A0q (q (A4f r t)))):
  ACall Tryz.prog 65 [tR r,A05 Ts,.t (.fn f [.rptr a,.rptr b])] (.tup [A0k (B7Z (C3D r q Ts)),A0j (B8a (C3D r q Ts))]):=by
 have hD:=fun t (ht:t∈Ts)=>A2E r t hs (hT t ht).1 (hT t ht).2;have hdef: ∀t,B6x r t (2*(endsL r.es).length)=A4f r t:=fun _=>rfl;simp only [hdef] at hD;unfold C3D;generalize A4f r=dF at*;clear hT hs hdef;obtain ⟨n,es,ar⟩:=r;refine ACall.of_body Tryz.func65 rfl (by kernel_rfl) ?_;simp only [entry,Tryz.ntmps65,tR,A05];refine zU ?_;refine zR (zc @A0i Qv5) Qv5 Qv5 ?_;refine AWp.loopS (α:=Nat) 23 (fun i=>[(2,.c (.fn f [.tree (.rptr a),.tree (.rptr b)])),(3,.c (.ptr 0 0)),(10,.c (.slice (A0n Ts) .none)),(11,.c (.int .i64 (Ts.length:Int))),(12,.c (.int .i64 (i:Int)))]) (fun i=>[.box [.int .i64 n,.slice (A0f es) .none,.slice (A0n ar) .none]]) (fun i=>i≤Ts.length∧(Ts.take i).find? (fun t=>q (dF t))=none) (fun i=>Ts.length-i) (0) (hk:=Weak.headL 1 23 [2,3,10,11,12] zW) (h0:=?_) (round:=fun i hI=>?_)
 ·exact ⟨Xj _,rfl⟩
 ·obtain ⟨hi,hI2⟩:=hI;by_cases hlt:i<Ts.length
  ·have hltI:(i:Int)<(Ts.length:Int):=by omega
   have e0:=Qq hlt;have e1:=A0D e0;have hm:=Xw hlt;have d1:=hD _ hm;have d2:=hq _ hm;have t1:Ts.take (i+1)=Ts.take i++[Ts[i]]:=Xy hlt;have t2:Ts=Ts.take i++Ts[i]::Ts.drop (i+1):=by rw [List.getElem_cons_drop,WJ]
   generalize Ts[i]=x at*;by_cases hx:q (dF x)=true
   ·rw [hx] at d2;have hf:Ts.find? (fun t=>q (dF t))=some x:=by
     rw [t2,List.find?_append,hI2,List.find?_cons,hx]; rfl
    rw [hf];refine zR (zc @hltI (zc @A0i (zc @e1 Qv5))) (zc d1 (zc d2 Qv5)) Qv5 ?_;simp [A0s,A0r,Blk.cells,ty,Tryz.results65,A0o,A0p,toT,A0d,A0b,A0c,A0a,A0j,A0k,B7Z,B8a]
   ·have hx:q (dF x)=false:=by simpa using hx
    rw [hx] at d2;refine zR (zc @hltI (zc @A0i (zc @e1 Qv5))) (zc d1 (zc d2 Qv5)) Qv5 ?_;refine ⟨i+1,Weak.headN 1 23 [2,3,10,11,12] zW,?_,?_⟩
    ·exact ⟨hlt,by rw [t1,List.find?_append,hI2,List.find?_cons,hx]; rfl⟩
    ·omega
  ·have ei:i=Ts.length:=by omega
   rw [ei,Zz] at hI2;rw [hI2];have hnl: ¬((i:Int)<(Ts.length:Int)):=by omega
   refine zR (zc @hnl (zc @A0i Qv5)) Qv5 Qv5 ?_;simp [A0s,A0r,Blk.cells,ty,Tryz.results65,A0o,A0p,toT,A0d,A0b,A0c,A0a,A0j,A0k,A0l,B7Z,B8a]
end Go.Proofs.YtdbdfkohpjefjaaGreat
