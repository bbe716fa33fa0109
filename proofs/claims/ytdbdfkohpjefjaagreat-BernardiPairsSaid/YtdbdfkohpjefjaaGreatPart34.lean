/- A part of the proof. -/
import Derived.Test.YtdbdfkohpjefjaaGreatPart33
import Derived.Test.YtdbdfkohpjefjaaGreatPart32
set_option linter.all false
set_option maxHeartbeats 4000000
set_option maxRecDepth 100000
namespace Go.Proofs.YtdbdfkohpjefjaaGreat
open Go.Sp
variable {T:List Nat}
def C5B {r:R} (hr:ROk r) (hl:(endsL r.es).length≤8) (hT:T∈treesG r.g):B7U (A2l r (zI T)) r.n=0:=by
 have h12:=(A0j.1 hr.c).1;have e:r.g.n=r.n:=rfl;have hn:=A2k hr;unfold B7U;rw [if_neg (by omega),if_neg (by rw [A2S]; omega),if_pos];rw [Zv];intro x hx;obtain ⟨i,hi,rfl⟩:=YJ.1 hx;have h1:=C3o hr hT i;rw [Qz,Qq hi,Option.getD_some] at h1;unfold inD;simp only [XJ,decide_eq_true_eq];omega
def C3p {r:R} (hr:ROk r) (hT:T∈treesG r.g):C3a r.g (A2l r (zI T))=true:=by
 have h12:=(A0j.1 hr.c).1;exact (C3c hr.c (n:=r.g.n.toNat) (by omega) hr.conn _).2 (B1T hr hT)
structure VecL (H:List Blk) (j cap:Nat) (L:List (List Int)):Prop where
 lt:j<H.length
 le:L.length≤cap
 bx:(cap=0∧L=[])∨(0<j∧H[j]? =some (.box (sC L++List.replicate (cap-L.length) .any)))
def B1X (O:List (List Int)) (x:List Int):sC (O++[x])=sC O++[.slice (A0p x) .none]:=by simp [sC]
def C3P {m:Nat} {L:List (List Int)} {k:Nat}:blkIn m (.box (sC L++List.replicate k .any)):=fun c hc=>by
 rcases XY.1 hc with h | h
 ·exact C3d c h
 ·rw [YY] at h; rw [h.2]; exact Qv4
variable {B:List Blk}
def C3q {m:Nat} (h: ∀b,b∈B-> ∀m,blkIn m b):A1y m B:=fun b hb=>h b hb m
def VecL.put {b0:Blk} {j cap:Nat} {L:List (List Int)} (h:VecL (b0::B) (j+1) cap L) (x:List Int) (hlt:L.length<cap):
  VecL (b0::B.set j (.box (sC L++[cellOf (.slice (A0p x))]++List.replicate (cap-(L.length+1)) .any))) (j+1) cap (L++[x]):=by
 have hj:j<B.length:=by have:=h.lt; simpa using this
 refine ⟨by simpa using hj,by simp; omega,.inr ⟨by omega,?_⟩⟩;rw [List.getElem?_cons_succ,QZ hj,B1X,Xv]; rfl
def VecL.new {b0:Blk} {j cap cap':Nat} {L:List (List Int)} (h:VecL (b0::B) j cap L) (x:List Int) (hc:L.length+1≤cap'):
  VecL (b0::(B++[.box (sC L++[cellOf (.slice (A0p x))]++List.replicate (cap'-(L.length+1)) .any)])) (B.length+1) cap' (L++[x]):=by
 refine ⟨by simp,by simp; omega,.inr ⟨by omega,?_⟩⟩;rw [List.getElem?_cons_succ,QV (QQ _),Jz,B1X,Xv]; rfl
def C3Q {r:R} (hr:ROk r):Mult r.n.toNat (mulE r.es)∧Joins (endsL r.es).length r.n.toNat (gR (endsL r.es)) (mulE r.es):=⟨(C0g (g:=r.g) (n:=r.n.toNat) hr.c (by have:=A2k hr; show r.n=_; omega) hr.conn).2,B3m hr⟩
def B6r {r:R} (hr:ROk r) {x:List Int}:x∈(tI (treesG r.g)).map (A2l r)↔x.length=r.n.toNat∧BrkD (endsL r.es).length r.n.toNat (gR (endsL r.es)) (fun v=>x.getD v 0):=by
 have hmap:(tI (treesG r.g)).map (A2l r)=(treesG r.g).map fun T=>A2l r (zI T):=by unfold tI; rw [VQ]; rfl
 rw [hmap,QJ];constructor
 ·rintro ⟨T,hT,rfl⟩;exact ⟨A2S _ _,B1T hr hT⟩
 ·rintro ⟨hl,hD⟩;obtain ⟨hM,hJ⟩:=C3Q hr;obtain ⟨T,hT,he⟩:=C57 hr hM hJ hD.deg;refine ⟨T,hT,?_⟩;have h2:=C3C hM hJ (A2K hr).lt (A2k hr) (B1T hr hT) hD he;refine Qq6 (by rw [A2S,hl]) fun i h3 h4=> ?_;have h5:=h2 i (by rwa [A2S] at h3);rw [Qz,Qz,Qq h3,Qq h4] at h5;exact h5
def C1i {r:R} (hr:ROk r):((tI (treesG r.g)).map (A2l r)).Nodup:=by
 have hnT:(treesG r.g).Nodup:=A6c (show acyc (pkN (endsL r.g.es) []) from A3E);have hmap:(tI (treesG r.g)).map (A2l r)=(treesG r.g).map fun T=>A2l r (zI T):=by unfold tI; rw [VQ]; rfl
 rw [hmap];exact JQ.2 (hnT.imp_of_mem fun {a b} ha hb hab e=>hab (C1e hr ha hb e))
def C5C {r:R} (hr:ROk r):sortLL ((tI (treesG r.g)).map (A2l r))=sortLL (C5M r.g):=by
 have h:A0t r.g=0:=by unfold A0t; rw [if_neg (by have:=hr.c; omega),if_pos hr.conn]
 have hr2:=B4T h;refine B3j ((WJ (C1i hr) (C1i hr2)).2 fun x=> ?_);rw [B6r hr,B6r hr2];exact Iff.rfl
def C1j {r:R} (hD:RightS r) (hT:T∈treesG r.g):trE r (A2l r (zI T))=0∧trT r (A2l r (zI T))=some (zI T):=by
 refine ⟨?_,?_⟩
 ·unfold trE;rw [if_neg (by have:=hD.rib; omega),if_neg (by have:=C5B hD.rok hD.ends hT; omega),if_pos (C3p hD.rok hT)]
 ·exact C1f (r:=r) (q:=fun x=>decide (x=A2l r (zI T))) hT (decide_eq_true rfl) fun T' hT' h=>C1e hD.rok hT' hT (of_decide_eq_true h)
def vIn {m j a b:Nat} (h:j<m):B3J m (.c (.vec j a b)):=h
def C1k (a b:List Int) (ha:a.length<2^40) (hb:b.length<2^40):ACall Tryz.prog 29 [A0q a,A0q b] (A0n (A1M a b)):=by
 have hC:=A9x a b ha hb;generalize A1M a b=c at*;refine ACall.of_body Tryz.func29 rfl (by kernel_rfl) ?_;simp only [entry,Tryz.ntmps29,A0q];refine zU ?_;refine zR Qv6 (zc hC Qv6) Qv6 ?_;simp [A00,A0z,Blk.cells,ty,Tryz.results29,A0v,A0w,toT,A0d,A0b,A0c,A0a,A0n]
def B7L (n:Int) (es:List E) (ar:List (List Int)) (Ts AL:List (List Int)) (dF:List Int->List Int) (hne:Ts≠[]) (hTl:Ts.length≤24) (hAl:AL.length=Ts.length) (hdl: ∀t,(dF t).length≤12) (htl: ∀t,t∈Ts->t.length≤12)
  (f1:ACall Tryz.prog 24 [tR ⟨n,es,ar⟩] (A0x true))
  (c1:ACall Tryz.prog 25 [tG ⟨n,es⟩] (.tup [A0S Ts,A0n 0]))
  (c2:ACall Tryz.prog 26 [tG ⟨n,es⟩] (.tup [A0S AL,A0n 0]))
  (c3: ∀t,t∈Ts->ACall Tryz.prog 14 [tR ⟨n,es,ar⟩,A0q t] (.tup [A0q (dF t),A0n 0]))
  (c4: ∀t,t∈Ts->ACall Tryz.prog 20 [tR ⟨n,es,ar⟩,A0q (dF t)] (.tup [A0q t,A0n 0]))
  (hs:sortLL (Ts.map dF)=AL) (hA:ACall Tryz.prog 11 [] (A0x true)):
  ACall Tryz.prog 5 [tR ⟨n,es,ar⟩] (A0x true):=by
 have hAI:(Ts.length:Int)=(AL.length:Int):=by omega
 refine ACall.of_body Tryz.func5 rfl (by kernel_rfl) ?_;simp only [entry,Tryz.ntmps5,tR];refine zU ?_;refine zJ (stop 8) (zc @A0o (zc @hAI Qv6)) (zc f1 (zc c1 (zc c2 Qv6))) Qv6 Qv6 ?_;refine AWp.weak (Weak.nilVec 7 0 rfl (by simp)) ?_;simp only [List.set_cons_succ,List.set_cons_zero];refine zR (zc @A0o Qv6) Qv6 Qv6 ?_;refine AWp.loopS (α:=(Nat×(Nat×(Nat×List Blk)))) 86 (fun s=>[(1,.c (.ptr 0 0)),(5,.c (.slice (A0u AL) .none)),(7,.c (.vec s.2.1 s.1 s.2.2.1)),(43,.c (.slice (A0u Ts) .none)),(44,.c (.int .i64 (Ts.length:Int))),(45,.c (.int .i64 (s.1:Int)))]) (fun s=>.box [.int .i64 n,.slice (A0f es) .none,.slice (A0u ar) .none]::s.2.2.2) (fun s=>s.1≤Ts.length∧VecL (.box [.int .i64 n,.slice (A0f es) .none,.slice (A0u ar) .none]::s.2.2.2) s.2.1 s.2.2.1 ((Ts.take s.1).map dF)∧(∀b,b∈s.2.2.2-> ∀m,blkIn m b)) (fun s=>Ts.length-s.1) ((0,(0,(0,([]:List Blk))))) (hk:=Weak.headL (((0,(0,(0,([]:List Blk))))).2.2.2.length+1) 86 [1,5,7,43,44,45] (by (repeat' (first | exact A0m _ | exact A0s _ | exact A0i _ | refine Qv5 ?_ ?_ | refine A0k ?_ ?_ | refine A0l ?_ ?_ | refine A0h ?_ ?_ | exact Qv4 | exact C3q (by assumption) | exact vIn (by first | omega | (simp; done) | (simp; omega)) | (show _<_; omega) | exact A0r (fun _=>Qv4) | (intro c hc; cases hc; done) | (intro c hc; simp only [Qw,Qv,or_false] at hc; subst hc; first | exact Qv4 | exact C3q (by assumption) | exact vIn (by first | omega | (simp; done) | (simp; omega)) | (show _<_; omega)) | (intro c hc; simp only [Qw,Qv,or_false] at hc; rcases hc with rfl | rfl<;>first | exact Qv4 | exact C3q (by assumption) | exact vIn (by first | omega | (simp; done) | (simp; omega)) | (show _<_; omega)))))) (h0:=?_) (round:=fun s hI=>?_)
 ·exact ⟨Xw _,⟨by simp,by simp,.inl ⟨rfl,rfl⟩⟩,fun b hb=>by cases hb⟩
 ·obtain ⟨i,j,cap,B⟩:=s;obtain ⟨hi,hV,hBin⟩:=hI;simp only at hi hV hBin ⊢;by_cases hlt:i<Ts.length
  ·have hltI:(i:Int)<(Ts.length:Int):=by omega
   have e0:=Qq hlt;have e1:=A0U e0;have hm:=Xk hlt;have d1:=c3 _ hm;have d2:=c4 _ hm;have htx:=htl _ hm;have hdx:=hdl Ts[i];have t1:(Ts.take (i+1)).map dF=(Ts.take i).map dF++[dF Ts[i]]:=by rw [XZ hlt,WY]; rfl
   have hlk:((Ts.take i).map dF).length=i:=by rw [XW,YV]; omega
   generalize dF Ts[i]=y at*;generalize Ts[i]=x at*;have d3:=B1x x x (by omega) (by omega);rw [decide_eq_true rfl] at d3;generalize hK1:(Ts.take (i+1)).map dF=K1 at*;generalize (Ts.take i).map dF=K0 at*;subst hlk;have hcap:=hV.le;refine zMc (zc Qv6 (prt 15 3)) (zc @hltI (zc @e1 (zc @A0o Qv6))) (zc d1 (zc d2 (zc d3 Qv6))) Qv6 Qv6 (ed fun hp hpc=>?_);simp only [Zw,ZY];refine AReg.stepN rfl rfl (A4S (e:=36) (e2:=36) (by':=24) (z:= .slice none 0 0) (used:=sC K0) (tr:= .slice (A0p y)) (tok:= .exact) rfl (by simp only [ty]) (by simp only [ty]) (by simp only [ty]) (by simp only [ty]) rfl (by simp only [ty]) rfl (hV.bx.imp (fun h=>⟨h.1,by rw [h.2]; rfl⟩) fun h=>h.2) (A9G _) hcap rfl (by omega) (by omega)) ?_;rintro r H' (⟨hlc,rfl,rfl⟩ | ⟨cap',hc',rfl,rfl⟩)
   ·obtain ⟨hj0,-⟩:=hV.bx.resolve_left fun h=>by omega
    obtain ⟨j',rfl⟩: ∃j',j=j'+1:=⟨j-1,by omega⟩;have hV2:=hV.put y hlc;rw [<-t1] at hV2;rw [List.set_cons_succ];have hBn: ∀b,b∈B.set j' (Blk.box (sC K0++[cellOf (.slice (A0p y))]++List.replicate (cap-(K0.length+1)) ACell.any))-> ∀m,blkIn m b:=fun b hb m=>by
     rcases List.mem_or_eq_of_mem_set hb with h | h
     ·exact hBin b h m
     ·rw [h];have:=C3P (m:=m) (L:=K0++[y]) (k:=cap-(K0.length+1));rw [B1X] at this;exact this
    have hl2:j'+1<(B.set j' (Blk.box (sC K0++[cellOf (.slice (A0p y))]++List.replicate (cap-(K0.length+1)) ACell.any))).length+1:=by simpa using hV2.lt
    generalize hB2:B.set j' (Blk.box (sC K0++[cellOf (.slice (A0p y))]++List.replicate (cap-(K0.length+1)) ACell.any))=B2 at*;refine AReg.rest (fun K hK=> ?_);refine zM trivial trivial trivial trivial trivial (ed fun hp hpc=>?_);refine ⟨(K0.length+1,(j'+1,(cap,B2))),Weak.headN (((K0.length+1,(j'+1,(cap,B2)))).2.2.2.length+1) 86 [1,5,7,43,44,45] (by (repeat' (first | exact A0m _ | exact A0s _ | exact A0i _ | refine Qv5 ?_ ?_ | refine A0k ?_ ?_ | refine A0l ?_ ?_ | refine A0h ?_ ?_ | exact Qv4 | exact C3q (by assumption) | exact vIn (by first | omega | (simp; done) | (simp; omega)) | (show _<_; omega) | exact A0r (fun _=>Qv4) | (intro c hc; cases hc; done) | (intro c hc; simp only [Qw,Qv,or_false] at hc; subst hc; first | exact Qv4 | exact C3q (by assumption) | exact vIn (by first | omega | (simp; done) | (simp; omega)) | (show _<_; omega)) | (intro c hc; simp only [Qw,Qv,or_false] at hc; rcases hc with rfl | rfl<;>first | exact Qv4 | exact C3q (by assumption) | exact vIn (by first | omega | (simp; done) | (simp; omega)) | (show _<_; omega))))),?_,?_⟩
    ·exact ⟨hlt,by rw [hK1]; exact hV2,hBn⟩
    ·simp only; omega
   ·have hV2:=hV.new y hc';rw [<-t1] at hV2;simp only [List.cons_append,List.length_cons];have hBn: ∀b,b∈B++[Blk.box (sC K0++[cellOf (.slice (A0p y))]++List.replicate (cap'-(K0.length+1)) ACell.any)]-> ∀m,blkIn m b:=fun b hb m=>by
     rcases XY.1 hb with h | h
     ·exact hBin b h m
     ·rw [Zq.1 h];have:=C3P (m:=m) (L:=K0++[y]) (k:=cap'-(K0.length+1));rw [B1X] at this;exact this
    have hl2:B.length+1<(B++[Blk.box (sC K0++[cellOf (.slice (A0p y))]++List.replicate (cap'-(K0.length+1)) ACell.any)]).length+1:=by simp
    generalize hB2:B++[Blk.box (sC K0++[cellOf (.slice (A0p y))]++List.replicate (cap'-(K0.length+1)) ACell.any)]=B2 at*;refine AReg.rest (fun K hK=> ?_);refine zM trivial trivial trivial trivial trivial (ed fun hp hpc=>?_);refine ⟨(K0.length+1,(B.length+1,(cap',B2))),Weak.headN (((K0.length+1,(B.length+1,(cap',B2)))).2.2.2.length+1) 86 [1,5,7,43,44,45] (by (repeat' (first | exact A0m _ | exact A0s _ | exact A0i _ | refine Qv5 ?_ ?_ | refine A0k ?_ ?_ | refine A0l ?_ ?_ | refine A0h ?_ ?_ | exact Qv4 | exact C3q (by assumption) | exact vIn (by first | omega | (simp; done) | (simp; omega)) | (show _<_; omega) | exact A0r (fun _=>Qv4) | (intro c hc; cases hc; done) | (intro c hc; simp only [Qw,Qv,or_false] at hc; subst hc; first | exact Qv4 | exact C3q (by assumption) | exact vIn (by first | omega | (simp; done) | (simp; omega)) | (show _<_; omega)) | (intro c hc; simp only [Qw,Qv,or_false] at hc; rcases hc with rfl | rfl<;>first | exact Qv4 | exact C3q (by assumption) | exact vIn (by first | omega | (simp; done) | (simp; omega)) | (show _<_; omega))))),?_,?_⟩
    ·exact ⟨hlt,by rw [hK1]; exact hV2,hBn⟩
    ·simp only; omega
  ·have ei:i=Ts.length:=by omega
   have hnl: ¬((i:Int)<(Ts.length:Int)):=by omega
   have hpos:0<Ts.length:=Ww.2 hne;rw [ei,Zy] at hV;rw [ei] at hnl;rw [ei];have hln:(Ts.map dF).length=Ts.length:=XW _;have hO: ∀x,x∈Ts.map dF->x.length<2^40:=fun x hx=>by obtain ⟨t,_,rfl⟩:=QJ.1 hx; have:=hdl t; omega
   have hcap:=hV.le;generalize Ts.map dF=O at*;obtain ⟨hj0,hbx⟩:=hV.bx.resolve_left fun h=>by rw [h.2] at hln; simp at hln; omega
   obtain ⟨j',rfl⟩: ∃j',j=j'+1:=⟨j-1,by omega⟩;have hjB:j'<B.length:=by have:=hV.lt; simpa using this
   have htk:(sC O++List.replicate (cap-O.length) ACell.any).take O.length=sC O:=by
    rw [ZQ (by rw [A9G]; exact QQ _),ZZ (by rw [A9G]; exact QQ _)]
   have hid:(.box [.int .i64 n,.slice (A0f es) .none,.slice (A0u ar) .none]::B.set j' (.box (sC O)):List Blk)[j'+1]? =some (.box (sC O)):=by
    rw [List.getElem?_cons_succ,QZ hjB]
   have hS:=B36 29 C1k O (by omega) (by omega) hO (H:= .box [.int .i64 n,.slice (A0f es) .none,.slice (A0u ar) .none]::B.set j' (.box (sC O))) (id:=j'+1) (cap:=O.length) hid;rw [hs,List.set_cons_succ,List.set_set] at hS;have hsl:AL.length=O.length:=by rw [<-hs]; exact (A1q O).length_eq
   have hSA:=A7L AL AL (by omega) (by omega) (fun l hl=>hO l ((A1q O).mem_iff.1 (by rw [hs]; exact hl))) (fun l hl=>hO l ((A1q O).mem_iff.1 (by rw [hs]; exact hl)));rw [decide_eq_true rfl] at hSA;have hbor:A0d (.box [.int .i64 n,.slice (A0f es) .none,.slice (A0u ar) .none]::B.set j' (.box (sC AL))) (.ref (j'+1) 1 0 O.length O.length)=some (.slice (A0u AL)):=by
    have h1:=C0S AL;rw [hsl] at h1;have h2:(sC AL).take O.length=sC AL:=ZZ (by rw [A9G]; omega);simp [A0d,A0b,QZ hjB,Blk.cells,h2,h1.1,h1.2];rw [A9G]; omega
   have hSB:ACallH Tryz.prog 31 (.box [.int .i64 n,.slice (A0f es) .none,.slice (A0u ar) .none]::B.set j' (.box (sC AL))) [.c (.ref (j'+1) 1 0 O.length O.length),.c (.slice (A0u AL) .none)] (.box [.int .i64 n,.slice (A0f es) .none,.slice (A0u ar) .none]::B.set j' (.box (sC AL))) (ofT (A0x true)):=
    ACall.hb hSA (by simp only [JZ,List.mapM_nil,toT,hbor,Option.map_some]; rfl) rfl
   rw [<-hln];rw [<-hln] at hnl;refine zJ (stop 17) (zc @hnl Qv6) Qv6 Qv6 Qv6 ?_;refine AWp.weak (Weak.vecSee 7 (j'+1) O.length cap rfl (by omega) hcap) ?_;refine AWp.boxTake (j'+1) O.length (by rw [List.getElem?_cons_succ] at hbx ⊢; exact hbx) ?_;rw [htk];simp only [List.set_cons_succ,List.set_cons_zero];refine zJ Qv6 Qv6 (zc hA Qv6) (zc hS (zc hSB Qv6)) Qv6 ?_;simp [A00,A0z,Blk.cells,ty,Tryz.results5,A0v,A0w,toT,A0d,A0b,A0c,A0a,A0x]
def B7M (r:R):ACall Tryz.prog 5 [tR r] (A0x true):=by
 have hA:=B7G;have f1:=B7K r;by_cases hr:C6P r=true
 case neg=>
  simp only [Qx0] at hr;rw [hr] at f1;obtain ⟨n,es,ar⟩:=r;refine ACall.of_body Tryz.func5 rfl (by kernel_rfl) ?_;simp only [entry,Tryz.ntmps5,tR];refine zU ?_;refine zR Qv6 (zc f1 (zc hA Qv6)) Qv6 ?_;simp [A00,A0z,Blk.cells,ty,Tryz.results5,A0v,A0w,toT,A0d,A0b,A0c,A0a,A0x]
 rw [hr] at f1;have hD:=B7J hr;have hrk:=hD.rok;have hj:A0t r.g=0:=by unfold A0t; rw [if_neg (by have:=hrk.c; omega),if_pos hrk.conn]
 have h12:=(A0j.1 hrk.c).1;have en:r.g.n=r.n:=rfl;have c1:=B1M r.g hD.hs.es (by have:=hD.few; omega);rw [if_neg (by omega),hj] at c1;have c2:=C1d r.g hD.hs.es (fun _=>by have:=hD.few; omega);rw [if_neg (by omega),hj,<-C5C hrk] at c2;obtain ⟨hM,hJ2⟩:=C3Q hrk;obtain ⟨T0,hT0⟩:=B1R hrk hM hJ2;have hne:tI (treesG r.g)≠[]:=by
  intro e;have:zI T0∈tI (treesG r.g):=QJ.2 ⟨T0,hT0,rfl⟩;rw [e] at this; cases this
 have htl: ∀t,t∈tI (treesG r.g)->t.length≤12:=fun t ht=>by have:=(A2y hrk ht).2; omega
 have c3: ∀t,t∈tI (treesG r.g)->ACall Tryz.prog 14 [tR r,A0q t] (.tup [A0q (A2l r t),A0n 0]):=fun t ht=>by
  obtain ⟨T,hT,rfl⟩:=QJ.1 ht;have h:=A7P r (zI T) hD.hs (by have:=htl _ ht; show (zI T).length<_; unfold zI; simpa using (show T.length<2^40 by simp at this; omega));rw [B1U hD.rib hT,if_neg (by simp)] at h;exact h
 have c4: ∀t,t∈tI (treesG r.g)->ACall Tryz.prog 20 [tR r,A0q (A2l r t)] (.tup [A0q t,A0n 0]):=fun t ht=>by
  obtain ⟨T,hT,rfl⟩:=QJ.1 ht;obtain ⟨e1,e2⟩:=C1j hD hT;have h:=B35 r (A2l r (zI T)) hD.hs (fun _=>by have:=hD.few; omega) (by rw [A2S]; omega) (fun _=>hrk);rw [if_neg (by omega),if_neg (by omega),e2] at h;exact h
 have hlen:(sortLL ((tI (treesG r.g)).map (A2l r))).length=(tI (treesG r.g)).length:=by rw [(A1q _).length_eq,XW]
 have hfew:(tI (treesG r.g)).length≤24:=by rw [B0S]; exact hD.few
 have hdl: ∀t,(A2l r t).length≤12:=fun t=>by rw [A2S]; omega
 obtain ⟨n,es,ar⟩:=r;exact B7L n es ar _ _ _ hne hfew hlen hdl htl f1 c1 c2 c3 c4 rfl hA
end Go.Proofs.YtdbdfkohpjefjaaGreat
