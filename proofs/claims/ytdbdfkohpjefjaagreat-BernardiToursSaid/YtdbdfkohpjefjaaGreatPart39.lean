/- A part of the proof. -/
import Derived.Test.YtdbdfkohpjefjaaGreatPart36
import Derived.Test.YtdbdfkohpjefjaaGreatPart37
import Derived.Test.YtdbdfkohpjefjaaGreatPart38
set_option linter.all false
set_option maxHeartbeats 4000000
set_option maxRecDepth 100000
namespace Go.Proofs.YtdbdfkohpjefjaaGreat
open Go.Sp
theorem B6d (d x:List Int) (hd:d.length<2^40) (hx:x.length<2^40):ACall Tryz.prog 66 [A0m x,.t (.rptr [.slice (A0o d)])] (A01 (decide (x=d))):=by
 have hE:=A8N x d hx hd;generalize decide (x=d)=b at*;refine ACall.of_body Tryz.func66 rfl (by kernel_rfl) ?_;simp only [entry,Tryz.ntmps66,A0m];refine zU ?_;refine zR Qw6 (zc hE Qw6) Qw6 ?_;simp [A0y,A0x,Blk.cells,ty,Tryz.results66,A0s,A0u,toT,A0e,A0b,A0c,A0a,A01]
noncomputable def trE (r:R) (d:List Int):Int:=if ribE r≠0 then ribE r else if B9i d r.n≠0 then B9i d r.n else if C3e r.g d=true then 0 else 15
noncomputable def trT (r:R) (d:List Int):Option (List Int):=C0P r (fun x=>decide (x=d)) (tI (treesG r.g))
theorem A2U {r:R} (hr:ROk r) {t:List Int} (h:t∈tI (treesG r.g)):RTree r t∧t.length+1=r.n.toNat:=by
 obtain ⟨T,hT,rfl⟩:=Xq.1 h;obtain ⟨h1,h2⟩:=A9W hr hT;have h3:=(A4Y.1 hT).2.2.1;exact ⟨⟨hr,h1,h2⟩,by rw [XY]; exact h3⟩
theorem B9b (r:R) (d:List Int) (hs:RSm r) (hT:ribE r=0->(treesG r.g).length≤16384) (hdl:d.length<2^40) (hok:ribE r=0->ROk r):
  ACall Tryz.prog 20 [tR r,A0m d] (.tup [A0m (if trE r d≠0 then [] else B6a (trT r d)),A0k (if trE r d≠0 then trE r d else B6b (trT r d))]):=by
 have hR:=B1R r hs;have hC:=B1U d r.n hdl;unfold trE;by_cases h0:ribE r=0
 ·rw [if_neg (show ¬ribE r≠0 by omega)];rw [h0] at hR;have hrk:=hok h0;have h12:1≤r.n∧r.n≤12:=(A0j.1 hrk.c).1;by_cases h1:B9i d r.n=0
  ·rw [if_neg (show ¬B9i d r.n≠0 by omega)];rw [h1] at hC;obtain ⟨n,hn⟩: ∃n:Nat,r.n=n:=⟨r.n.toNat,by omega⟩;rw [hn] at h1;obtain ⟨q1,q2,q3,q4⟩:=C25 h1;have hB:=B8L r.g d (C3U hrk.c hs.es) h12 hs.es (by show d.length=r.n.toNat; omega) (fun v _=>by have:=q4 v; omega);by_cases hb:C3e r.g d=true
   ·rw [hb] at hB;rw [if_pos hb];have hj:A0w r.g=0:=by unfold A0w; rw [if_neg (by have:=hrk.c; omega),if_pos hrk.conn]
    have hA:=B33 r.g hs.es (hT h0);rw [hj] at hA;have hF:=B8V r hs (tI (treesG r.g)) (by rw [B49]; have:=hT h0; omega) (fun t ht=>⟨(A2U hrk ht).1,by have:=(A2U hrk ht).2; omega⟩) 66 [.slice (A0o d)] (fun x=>decide (x=d)) (fun t _=>B6d d _ hdl (by rw [B0K]; omega));have hF2:ACall Tryz.prog 65 [tR r,A1i (tI (treesG r.g)),.t (.fn 66 [.rptr [.slice (A0o d)]])] (.tup [A0m (B6a (trT r d)),A0k (B6b (trT r d))]):=hF;have hA2:ACall Tryz.prog 25 [tG r.g] (.tup [A1i (tI (treesG r.g)),A0k 0]):=hA;have e0:(if (0:Int)≠0 then ([]:List Int) else B6a (trT r d))=B6a (trT r d):=if_neg (by simp);have e1:(if (0:Int)≠0 then 0 else B6b (trT r d))=B6b (trT r d):=if_neg (by simp);rw [e0,e1];clear hF hA;generalize B6a (trT r d)=V at*;generalize B6b (trT r d)=W at*;generalize tI (treesG r.g)=Ts at*;obtain ⟨n',es,ar⟩:=r;have hB2:ACall Tryz.prog 64 [tG ⟨n',es⟩,A0m d] (A01 true):=hB;have hA3:ACall Tryz.prog 25 [tG ⟨n',es⟩] (.tup [A1i Ts,A0k 0]):=hA2;refine ACall.of_body Tryz.func20 rfl (by kernel_rfl) ?_;simp only [entry,Tryz.ntmps20,tR,A0m];refine zU ?_;refine zJ (stop 1) trivial trivial trivial trivial ?_;refine AWp.freezeP 3 1 rfl rfl (ts:=[.slice (A0o d)]) rfl ?_;simp only [List.set_cons_succ,List.set_cons_zero];refine zR Qw6 (zc hR (zc hC (zc hB2 (zc hA3 (zc hF2 Qw6))))) Qw6 ?_;simp [A0y,A0x,Blk.cells,ty,Tryz.results20,A0s,A0u,toT,A0e,A0b,A0c,A0a,A0k,A0m]
   ·have hb:C3e r.g d=false:=by simpa using hb
    rw [hb] at hB;rw [hb];obtain ⟨n',es,ar⟩:=r;have hB2:ACall Tryz.prog 64 [tG ⟨n',es⟩,A0m d] (A01 false):=hB;refine ACall.of_body Tryz.func20 rfl (by kernel_rfl) ?_;simp only [entry,Tryz.ntmps20,tR,A0m];refine zU ?_;refine zR Qw6 (zc hR (zc hC (zc hB2 Qw6))) Qw6 ?_;simp [A0y,A0x,Blk.cells,ty,Tryz.results20,A0s,A0u,toT,A0e,A0b,A0c,A0a,A0k,A0m,A0o]
  ·rw [if_pos h1,if_pos h1,if_pos h1];generalize B9i d r.n=e at*;obtain ⟨n',es,ar⟩:=r;refine ACall.of_body Tryz.func20 rfl (by kernel_rfl) ?_;simp only [entry,Tryz.ntmps20,tR,A0m];refine zU ?_;refine zR (zc @h1 Qw6) (zc hR (zc hC Qw6)) Qw6 ?_;simp [A0y,A0x,Blk.cells,ty,Tryz.results20,A0s,A0u,toT,A0e,A0b,A0c,A0a,A0k,A0m,A0o]
 ·rw [if_pos h0,if_pos h0,if_pos h0];generalize ribE r=e at*;obtain ⟨n',es,ar⟩:=r;refine ACall.of_body Tryz.func20 rfl (by kernel_rfl) ?_;simp only [entry,Tryz.ntmps20,tR,A0m];refine zU ?_;refine zR (zc @h0 Qw6) (zc hR Qw6) Qw6 ?_;simp [A0y,A0x,Blk.cells,ty,Tryz.results20,A0s,A0u,toT,A0e,A0b,A0c,A0a,A0k,A0m,A0o]
end Go.Proofs.YtdbdfkohpjefjaaGreat
namespace Go.Proofs.YtdbdfkohpjefjaaGreat
open Go.Sp Go.RowKit
open Go.Sort (SWO)
set_option maxHeartbeats 1000000
theorem C2O (a b:List Int) (ha:a.length<2^40) (hb:b.length<2^40):ACall Tryz.prog 80 [A0m a,A0m b] (A0k (A1M a b)):=by
 have hC:=B31 a b ha hb;generalize A1M a b=c at*;refine ACall.of_body Tryz.func80 rfl (by kernel_rfl) ?_;simp only [entry,Tryz.ntmps80,A0m];refine zU ?_;refine zR Qw6 (zc hC Qw6) Qw6 ?_;simp [A0y,A0x,Blk.cells,ty,Tryz.results80,A0s,A0u,toT,A0e,A0b,A0c,A0a,A0k]
theorem A4B (a b:List Int):Go.Proofs.ltOf A1M a b=A2V a b:=by
 unfold Go.Proofs.ltOf;cases h:A2V a b with
 | true=>rw [decide_eq_true_eq]; exact (B0F a b).1 h
 | false=>rw [decide_eq_false_iff_not]; intro q; rw [(B0F a b).2 q] at h; cases h
theorem C2P:SWO (Go.Proofs.ltOf A1M) where
 irrefl x:=by rw [A4B]; exact B5P x
 trans x y z:=by
  rw [A4B,A4B,A4B];intro h1 h2;rw [<-Bool.not_eq_false];intro h;have h3:=A6s _ _ _ (A38 _ _ h1) (A38 _ _ h2);have:=B0D _ _ h h3;subst this;rw [A38 _ _ h1] at h2; cases h2
 ntrans x y z:=by
  rw [A4B,A4B,A4B];intro h1 h2;exact A6s _ _ _ h2 h1
def C3W (l:List (List Int)) (i j:Fin l.length):Int:=A1M l[i] l[j]
theorem C3X (l:List (List Int)):SWO (Go.Proofs.ltOf (C3W l)) where
 irrefl x:=C2P.irrefl _
 trans x y z:=C2P.trans _ _ _
 ntrans x y z:=C2P.ntrans _ _ _
theorem B4C (l:List (List Int)):(List.finRange l.length).map (fun i=>l[i])=l:=by
 apply Qz0
 ·simp
 ·intro i p q; simp
theorem B9c (l:List (List Int)):(A5M (C3W l) (List.finRange l.length)).map (fun i=>l[i])=sortLL l:=by
 obtain ⟨h1,h2⟩:=B2E (C3X l) (List.finRange l.length);have h3:=h1.map fun i=>l[i];rw [B4C] at h3;refine B1Y ?_ h3;rw [JJ,YQ];intro i j hi hj hij;have:=h2 i j _ _ hij (Qq hi) (Qq hj);have e:Go.Proofs.ltOf (C3W l)=fun i j=>Go.Proofs.ltOf A1M l[i] l[j]:=rfl;rw [e] at this;simp only at this;rwa [A4B] at this
theorem C2Q: ∀args w,(callFunc 28 args).run Tryz.prog w= .ok (.enter 28 args) w:=Go.Proofs.enters_of Tryz.func28 (by kernel_rfl) rfl
theorem B9d (f:FuncId) (hf: ∀a b:List Int,a.length<2^40->b.length<2^40->ACall Tryz.prog f [A0m a,A0m b] (A0k (A1M a b))) (l:List (List Int)) (hpos:0<l.length) (hl:l.length<2^40) (hB: ∀B,B∈l->B.length<2^40) {H:List Blk} {id cap:Nat} (hid:H[id]? =some (.box (sC l))):
  ACallH Tryz.prog 28 H [.c (.ref id 1 0 l.length cap),.c (.fn f [])] (H.set id (.box (sC (sortLL l)))) (.tup []):=by
 have hb: ∀i:Fin l.length,l[i].length<2^40:=fun i=>hB _ (Xw i.isLt)
 have h:=A8Z (cap:=cap) laySortL (fun i:Fin l.length=>A0o l[i]) (C3W l) (C3X l) f (fun x y=>hf l[x] l[y] (hb x) (hb y)) C2Q (List.finRange l.length) (by simpa using hpos) (by simp; omega) (
  by
  rw [hid]; congr 2;conv=>lhs; rw [<-B4C l]
  unfold sC
  rw [JV]; rfl)
 have e:(A5M (C3W l) (List.finRange l.length)).map (fun i=>ACell.slice (A0o l[i]) .none)=sC (sortLL l):=by
  rw [<-B9c]; unfold sC; rw [JV]; rfl
 rw [List.length_finRange] at h;rw [<-e];exact h
theorem C0S (l:List (List Int)) (hpos:0<l.length) (hl:l.length<2^40) (hB: ∀B,B∈l->B.length<2^40) {H:List Blk} {id cap:Nat} (hid:H[id]? =some (.box (sC l))):
  ACallH Tryz.prog 28 H [.c (.ref id 1 0 l.length cap),.c (.fn 80 [])] (H.set id (.box (sC (sortLL l)))) (.tup []):=B9d _ C2O l hpos hl hB hid
end Go.Proofs.YtdbdfkohpjefjaaGreat
namespace Go.Proofs.YtdbdfkohpjefjaaGreat
open Go.Sp
theorem C4H (n:Int) (es:List E) (a b:Nat): ∀(id:Nat) (blk:Blk),[Blk.box [.int .i64 n,.slice (A0f es) .none],.dead,.chain a b][id]? =some blk->B6J blk:=C0u fun blk hb=>by
 simp only [Qw,Qk,or_false] at hb;rcases hb with rfl | rfl | rfl
 ·intro c hc;simp only [Qw,Qk,or_false] at hc;rcases hc with rfl | rfl
  ·exact Qw4
  ·exact B7U es
 ·exact Qw4
 ·exact Qw4
noncomputable def C3Y (g:G):List (List Int):=(tI (treesG g)).map (A4a (B5Z g))
theorem C2R (g:G) (hl:g.es.length≤40) (hT:A0w g=0->(treesG g).length≤16384):
  ACall Tryz.prog 26 [tG g] (.tup [A1i (if A0w g≠0 then [] else sortLL (C3Y g)),A0k (A0w g)]):=by
 have hJ:=B5T g hl;by_cases h0:A0w g=0
 ·rw [if_neg (by omega)];have hR:=B3p g hl;have hA:=B33 g hl (hT h0);have hTl:=hT h0;rw [h0] at hR hA hJ ⊢;have hr:=B8S h0;have hs:RSm (B5Z g):=C2y hl h0;have h12:1≤g.n∧g.n≤12:=(A0j.1 hr.c).1;have hD: ∀t,t∈tI (treesG g)->ACall Tryz.prog 56 [tR (B5Z g),A0m t] (A0m (A4a (B5Z g) t)):=fun t ht=>by
   have:=A2U hr ht;have h3:(B5Z g).n.toNat=g.n.toNat:=rfl;exact A2s (B5Z g) t hs this.1 (by omega)
  have hne:tI (treesG g)≠[]:=by
   obtain ⟨hM,hJ2⟩:=B8U h0;obtain ⟨T,hT2⟩:=C0O hr hM hJ2;intro e;have:zI T∈tI (treesG g):=Xq.2 ⟨T,hT2,rfl⟩;rw [e] at this; cases this
  have hdl: ∀t,(A4a (B5Z g) t).length≤12:=fun t=>by rw [B0K]; show g.n.toNat≤12; omega
  have hR2:ACall Tryz.prog 79 [tG g] (.tup [tR (B5Z g),A0k 0]):=hR;have hA2:ACall Tryz.prog 25 [tG g] (.tup [A1i (tI (treesG g)),A0k 0]):=hA;clear hR hA hT;have hTl2:(tI (treesG g)).length≤16384:=by rw [B49]; exact hTl
  unfold C3Y;generalize A4a (B5Z g)=dF at*;generalize tI (treesG g)=Ts at*;have hln:(Ts.map dF).length=Ts.length:=XY _;have hS:=fun (H:List Blk) (cap:Nat) hid=>C0S (Ts.map dF) (by rw [hln]; exact YX.2 hne) (by omega) (fun B hB=>by obtain ⟨t,_,rfl⟩:=Xq.1 hB; have:=hdl t; omega) (H:=H) (id:=3) (cap:=cap) hid;generalize B5Z g=r0 at*;clear hr hs hTl h12;obtain ⟨rn,res,rar⟩:=r0;obtain ⟨n,es⟩:=g;refine ACall.of_bodyF Tryz.func26 rfl (by kernel_rfl) ?_;simp only [entry,Tryz.ntmps26,tG];refine zU ?_
  repeat' ((fail_if_success (with_reducible refine AWp.atSeq 11 ?_));(fail_if_success (with_reducible refine AWp.atLast 11 ?_));first|((first|(refine zT ?_;intro K' hK')|(refine zG ?_ ?_<;>(try refine zH ?_)<;>intro hguard<;>(try exact zX)<;>try intro K' hK'))<;>((try simp+contextual only [go_sem]);(repeat' first|(with_reducible refine hK' _ _ ?_;clear hK' K')|((with_reducible first|refine zK hJ ?_|refine zK hR2 ?_|refine zK hA2 ?_);try simp+contextual only [go_sem])|exact zY|with_reducible refine Qw5 ?_ ?_|(with_reducible intro hpath;try exact zP)|(refine hK' _ _ ?_;clear hK' K')|fail);try refine zS ?_))|(refine zE ?_;refine hK _ _ ?_;clear hK K)|(refine zN ?_;try refine zS ?_)|refine zA ?_|(refine zB ?_;intro K hK)|(refine zC ?_ ?_<;>(try refine zH ?_)<;>intro hcond<;>try exact zX)|(with_reducible refine FWp.seq ?_)|fail)
  refine AWp.weak (A0r.opens ((fun t f=>[f,f,f,f,f,f,f,f,t,f,f,f,f,f,f,f,f,f,f,f,f,f,f,f,f,f,f,f,f,f,f,f,f,f,f,f,f,f,f,f,f,f,f,f,f,f,f,f]) true false) 1 (by first | omega | simp)) ?_;simp only [A2J,B0l,List.length_cons,List.length_nil,Xv,Nat.reduceAdd,List.cons_append,List.nil_append]
  repeat' (first|((first|(refine zT ?_;intro K' hK')|(refine zG ?_ ?_<;>(try refine zH ?_)<;>intro hguard<;>(try exact zX)<;>try intro K' hK'))<;>((try simp+contextual only [go_sem,A0q]);(repeat' first|(with_reducible refine hK' _ _ ?_;clear hK' K')|exact zY|with_reducible refine Qw5 ?_ ?_|(with_reducible intro hpath;try exact zP)|(refine hK' _ _ ?_;clear hK' K')|fail);try refine zS ?_))|(refine zE ?_;refine hK _ _ ?_;clear hK K)|(refine zN ?_;try refine zS ?_)|refine zA ?_|(refine zB ?_;intro K hK)|(refine zC ?_ ?_<;>(try refine zH ?_)<;>intro hcond<;>try exact zX)|(with_reducible refine FWp.seq ?_)|fail)
  refine AWp.loopS (α:=Nat) 48 (fun i=>[(5,.c (.ptr 1 0)),(8,.c (.slice (A07 ((Ts.take i).map dF)) (.chain 2))),(32,.c (.slice (A07 Ts) .none)),(33,.c (.int .i64 (Ts.length:Int))),(34,.c (.int .i64 (i:Int)))]) (fun i=>[.box [.int .i64 n,.slice (A0f es) .none],.box [.int .i64 rn,.slice (A0f res) .none,.slice (A07 rar) .none],.chain i 1]) (fun i=>i≤Ts.length) (fun i=>Ts.length-i) (0) (hk:=A0r.headL 3 48 [5,8,32,33,34] (zV @C2J)) (h0:=?_) (round:=fun i hI=>?_)
  ·exact Xj _
  ·have hi:i≤Ts.length:=hI;clear hI;by_cases hlt:i<Ts.length
   ·have hltI:(i:Int)<(Ts.length:Int):=by omega
    have e0:=Qq hlt;have e1:=A0V e0;have d1:=hD _ (Xw hlt);have t1:(Ts.take (i+1)).map dF=(Ts.take i).map dF++[dF Ts[i]]:=by rw [XQ hlt,WW]; rfl
    have hlk:((Ts.take i).map dF).length=i:=by rw [XY,WX]; omega
    generalize dF Ts[i]=y at*;generalize Ts[i]=x at*;generalize hK1:(Ts.take (i+1)).map dF=K1 at*;generalize (Ts.take i).map dF=K0 at*;refine zRc (zc @hltI (zc @e1 (zc @A0q (zc @A8u (zc @hlk Qw6))))) (zc d1 Qw6) @A8t ?_;rw [<-t1];refine ⟨i+1,A0r.headF 3 48 [5,8,32,33,34] (zc @hK1 Qw6) (zV @C2J),?_,?_⟩
    ·exact hlt
    ·omega
   ·have ei:i=Ts.length:=by omega
    have hnl: ¬((i:Int)<(Ts.length:Int)):=by omega
    rw [ei] at hnl;rw [ei,Zk];have hne2:Ts.map dF≠[]:=by simpa using hne
    generalize Ts.map dF=O at*;rw [<-hln] at hnl;rw [<-hln]
    repeat' ((fail_if_success (with_reducible refine FWp.atSeq 16 ?_));first|((first|(refine zT ?_;intro K' hK')|(refine zG ?_ ?_<;>(try refine zH ?_)<;>intro hguard<;>(try exact zX)<;>try intro K' hK'))<;>((try simp+contextual only [go_sem,hnl]);(repeat' first|(with_reducible refine hK' _ _ ?_;clear hK' K')|exact zY|with_reducible refine Qw5 ?_ ?_|(with_reducible intro hpath;try exact zP)|(refine hK' _ _ ?_;clear hK' K')|fail);try refine zS ?_))|(refine zE ?_;refine hK _ _ ?_;clear hK K)|(refine zN ?_;try refine zS ?_)|refine zA ?_|(refine zB ?_;intro K hK)|(refine zC ?_ ?_<;>(try refine zH ?_)<;>intro hcond<;>try exact zX)|(with_reducible refine FWp.seq ?_)|fail)
    refine FWp.weak (A0r.head2 (m:=3) (by omega) ((fun t f=>[f,f,f,f,f,f,f,f,t,f,f,f,f,f,f,f,f,f,f,f,f,f,f,f,f,f,f,f,f,f,f,f,f,f,f,f,f,f,f,f,f,f,f,f,f,f,f,f]) true false) rfl rfl (zV @C2J)) ?_;simp only [mask,List.take_succ_cons,List.take_zero,List.set_cons_succ,List.set_cons_zero];refine FWp.weak (A0r.dead 1 rfl (Xj _)) ?_;simp only [List.set_cons_succ,List.set_cons_zero];refine FWp.thawLT 8 rfl rfl (fun r hr=>A8t hr) (by decide) (fun r hr=>C0t hr) (by simpa [A07] using hne2) (C4H _ _ _ _) (by simp [C1F,B2D,A8Y]) (fun id h=>absurd h (Nat.not_lt_zero _)) (fun cap hcap=> ?_);rw [C2K,A0q];rw [A0q] at hcap;simp only [List.length_cons,List.length_nil,List.set_cons_succ,List.set_cons_zero,List.cons_append,List.nil_append,Nat.reduceAdd];refine FWp.of_awp ?_;have hsl:(sortLL O).length=O.length:=(A8L O).length_eq;have hS2:=hS [.box [.int .i64 n,.slice (A0f es) .none],.dead,.chain O.length 1,.box (sC O)] cap rfl;generalize sortLL O=X at*
    repeat' (first|((first|(refine zT ?_;intro K' hK')|(refine zG ?_ ?_<;>(try refine zH ?_)<;>intro hguard<;>(try exact zX)<;>try intro K' hK'))<;>((try simp+contextual only [go_sem]);(repeat' first|(with_reducible refine hK' _ _ ?_;clear hK' K')|((with_reducible first|refine ⟨_,_,hS2,?_⟩|refine ⟨_,hS2,?_⟩);try simp+contextual only [go_sem])|exact zY|with_reducible refine Qw5 ?_ ?_|(with_reducible intro hpath;try exact zP)|(refine hK' _ _ ?_;clear hK' K')|fail);try refine zS ?_))|(refine zE ?_;refine hK _ _ ?_;clear hK K)|(refine zN ?_;try refine zS ?_)|refine zA ?_|(refine zB ?_;intro K hK)|(refine zC ?_ ?_<;>(try refine zH ?_)<;>intro hcond<;>try exact zX)|fail)
    have h1:=C2L X;rw [hsl] at h1;have h2:(sC X).take O.length=sC X:=ZX (by rw [C1p]; omega);simp [A0y,A0x,Tryz.results26,A0s,A0u,A0e,A0b,Blk.cells,hcap,h2,h1.1,h1.2];rw [if_pos (by rw [C1p]; omega)];rfl
 ·rw [if_pos h0];generalize A0w g=e at*;obtain ⟨n',es⟩:=g;refine ACall.of_body Tryz.func26 rfl (by kernel_rfl) ?_;simp only [entry,Tryz.ntmps26,tG];refine zU ?_;refine zR (zc @h0 Qw6) (zc hJ Qw6) Qw6 ?_;simp [A0y,A0x,Blk.cells,ty,Tryz.results26,A0s,A0u,toT,A0e,A0b,A0c,A0a,A0k,A1i,A07]
set_option maxHeartbeats 2000000
set_option maxHeartbeats 2000000
theorem C2S {r:R} {q:List Int->Bool} {T:List Nat} (hT:T∈treesG r.g) (hq:q (A4a r (zI T))=true) (hu: ∀T',T'∈treesG r.g->q (A4a r (zI T'))=true->T'=T):C0P r q (tI (treesG r.g))=some (zI T):=by
 unfold C0P;cases h:(tI (treesG r.g)).find? (fun t=>q (A4a r t)) with
 | none=>
  rw [List.find?_eq_none] at h;exact absurd hq (h (zI T) (Xq.2 ⟨T,hT,rfl⟩))
 | some t=>
  have h1:=List.find?_some h;obtain ⟨T',hT',e⟩:=Xq.1 (List.mem_of_find?_eq_some h);subst e;rw [hu T' hT' h1]; rfl
set_option maxHeartbeats 2000000
theorem B4D {r:R} (h:ribE r=0) {T:List Nat} (hT:T∈treesG r.g):A5e r (zI T)=0:=by
 have hr:=B7F h;obtain ⟨h1,h2⟩:=A9W hr hT;have h3:=A4Y.1 hT;have hj:A0w r.g=0:=by unfold A0w; rw [if_neg (by have:=hr.c; omega),if_pos hr.conn]
 have hs:A2X (endsL r.g.es).length none (zI T)=0:=A89 h1 (JJ.2 (h3.1.imp fun {a b} hab=>by omega)) (fun w hw=>by cases hw);have hn:=A47 hr;unfold A5e;rw [if_neg (by omega)];unfold A46;rw [if_neg (by omega),if_neg (by omega),if_neg ?_,if_pos (show treeB r.g.n.toNat (endsL r.g.es) (zI T)=true from h2)];have hl:(zI T).length=T.length:=by unfold zI; rw [XY]
 have h4:T.length+1=r.n.toNat:=h3.2.2.1;have e:r.g.n=r.n:=rfl;rw [hl,e]; omega
set_option maxHeartbeats 2000000
set_option maxHeartbeats 2000000
def tgG:G:=⟨3,[⟨0,1,1⟩,⟨0,2,1⟩,⟨1,2,1⟩]⟩
def tgR:R:=⟨3,[⟨0,1,1⟩,⟨0,2,1⟩,⟨1,2,1⟩],[[0,2],[1,4],[3,5]]⟩
theorem B4E:ribE tgR=0:=by decide+kernel
theorem B2r:ROk tgR:=B7F B4E
theorem C4o:A0w tgG=0:=by decide+kernel
theorem C2T:endsL tgR.es=[(0,1),(0,2),(1,2)]:=by decide+kernel
theorem C2U {t:List Int} {es:List E} (he:endsL es=pkL (endsL tgR.es) t) (hl:t.length=2) (hc:checkG ⟨3,es⟩=0) (hb:connB ⟨3,es⟩=true):treeB 3 (endsL tgR.es) t=true:=by
 have h:=A37 (g:=⟨3,es⟩) (n:=3) hc rfl;rw [hb] at h;have h2:=of_decide_eq_true h.symm;unfold treeB;refine decide_eq_true ⟨by rw [hl]; rfl,?_⟩;rw [<-he]; exact h2
theorem B9e {T:List Nat} (hp:T.Pairwise (·< ·)) (hlt: ∀x,x∈T->x<3) (hb:treeB 3 (endsL tgR.es) (zI T)=true):T∈treesG tgR.g:=by
 have hlt2: ∀x,x∈T->x<(endsL tgR.es).length:=fun x hx=>by rw [C2T]; exact hlt x hx
 have h3:=(B0J (A47 B2r) (B0B B2r) hlt2).1 hb;exact A4Y.2 ⟨hp,hlt2,h3.1,h3.2⟩
theorem C3Z:[0,1]∈treesG tgR.g:=B9e (by decide) (by decide) (C2U (es:=[⟨0,1,1⟩,⟨0,2,1⟩]) (by decide+kernel) rfl (by decide+kernel) (by decide+kernel))
theorem C4a:[0,2]∈treesG tgR.g:=B9e (by decide) (by decide) (C2U (es:=[⟨0,1,1⟩,⟨1,2,1⟩]) (by decide+kernel) rfl (by decide+kernel) (by decide+kernel))
theorem C4b:[1,2]∈treesG tgR.g:=B9e (by decide) (by decide) (C2U (es:=[⟨0,2,1⟩,⟨1,2,1⟩]) (by decide+kernel) rfl (by decide+kernel) (by decide+kernel))
theorem B4F:A4a tgR [0,1]=[0,1,0]:=by decide+kernel
theorem B4G:A4a tgR [0,2]=[0,0,1]:=by decide+kernel
theorem B9f:A4a tgR [1,2]=[1,0,0]:=by decide+kernel
theorem C2V:tourL tgR [0,1] (2*(endsL tgR.es).length)=[0,4,1,2,5,3]:=by decide+kernel
theorem C1r:zI [0,1]=[0,1]:=by decide
theorem C1s:zI [0,2]=[0,2]:=by decide
theorem C1t:zI [1,2]=[1,2]:=by decide
theorem B4H:A5e tgR [0,1]=0:=by
 have h:=B4D B4E C3Z;rw [C1r] at h; exact h
theorem C1u:A5e tgR [0,2]=0:=by
 have h:=B4D B4E C4a;rw [C1s] at h; exact h
theorem B34:(treesG tgR.g).Perm [[0,1],[0,2],[1,2]]:=by
 have hnT:(treesG tgR.g).Nodup:=B3u (show A57 (pkN (endsL tgR.g.es) []) from A6k);refine (Qx1 hnT (by decide)).2 fun T=>⟨fun h=> ?_,fun h=> ?_⟩
 ·obtain ⟨h1,h2,h3,-⟩:=A4Y.1 h;have e3:(endsL tgR.g.es).length=3:=by decide+kernel
  rw [e3] at h2
  match T,h1,h2,h3 with
  | [a,b],h1,h2,h3=>
   have hb:=h2 b (by simp);have hab:a<b:=by simpa using h1
   have:(a=0∧b=1)∨(a=0∧b=2)∨(a=1∧b=2):=by omega
   rcases this with ⟨rfl,rfl⟩ | ⟨rfl,rfl⟩ | ⟨rfl,rfl⟩<;>decide
  | [],_,_,h3=>cases h3
  | [a],_,_,h3=>cases h3
  | a::b::c::T,_,_,h3=>
   have e:tgR.g.n.toNat=3:=rfl;rw [e] at h3;simp at h3
 ·simp only [Qw,Qk,or_false] at h;rcases h with rfl | rfl | rfl
  ·exact C3Z
  ·exact C4a
  ·exact C4b
theorem B4I:(treesG tgR.g).length=3:=by rw [B34.length_eq]; rfl
theorem C4c:B5Z tgG=tgR:=by
 have e:A1h (endsL tgG.es) tgG.n.toNat (2*(endsL tgG.es).length)=[[0,2],[1,4],[3,5]]:=by decide+kernel
 unfold B5Z;rw [e]; rfl
theorem C4d:sortLL (C3Y tgG)=[[0,0,1],[0,1,0],[1,0,0]]:=by
 refine (B1Y (by decide) ?_).symm;have e:C3Y tgG=(treesG tgR.g).map fun T=>A4a tgR (zI T):=by unfold C3Y tI; rw [JV,C4c]; rfl
 rw [e];refine (List.Perm.trans (B34.map _) ?_).symm;have e2:([[0,1],[0,2],[1,2]]:List (List Nat)).map (fun T=>A4a tgR (zI T))=[A4a tgR [0,1],A4a tgR [0,2],A4a tgR [1,2]]:=rfl;rw [e2,B4F,B4G,B9f];decide
theorem C4e:C3e tgR.g [1,0,0]=true:=by decide+kernel
theorem C1v:trE tgR [1,0,0]=0:=by
 unfold trE;rw [if_neg (by rw [B4E]; simp),if_neg (by decide),if_pos C4e]
theorem C4f {T:List Nat} (h:T∈treesG tgR.g):T=[0,1]∨T=[0,2]∨T=[1,2]:=by
 have:=B34.mem_iff.1 h;simpa using this
theorem C1w:trT tgR [1,0,0]=some [1,2]:=by
 have h:=C2S (r:=tgR) (q:=fun x=>decide (x=[1,0,0])) (T:=[1,2]) C4b (by rw [C1t]; exact decide_eq_true B9f) fun T' hT' h=>by
  have h1:=of_decide_eq_true h;rcases C4f hT' with rfl | rfl | rfl
  ·rw [C1r,B4F] at h1; exact absurd h1 (by decide)
  ·rw [C1s,B4G] at h1; exact absurd h1 (by decide)
  ·rfl
 rw [C1t] at h; exact h
end Go.Proofs.YtdbdfkohpjefjaaGreat
