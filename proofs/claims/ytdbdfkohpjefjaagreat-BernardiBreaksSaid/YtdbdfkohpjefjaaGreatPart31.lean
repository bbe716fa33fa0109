/- A part of the proof. -/
import Derived.Test.YtdbdfkohpjefjaaGreatPart28
import Derived.Test.YtdbdfkohpjefjaaGreatPart30
import Derived.Test.YtdbdfkohpjefjaaGreatPart29
set_option linter.all false
set_option maxHeartbeats 4000000
set_option maxRecDepth 100000
namespace Go.Proofs.YtdbdfkohpjefjaaGreat
open Go.Sp
section
def C19 (a b:List Int):A1I a b<0↔A1L a b=true:=(A8y a b).symm
def B69 (O:List (List Int)) (i:Nat): ∀m,i+m<O.length-> ∀k,k≤m->A1L ((B2p O i m).getD (i+k) []) ((B2p O i m).getD i [])=false
 | 0,_,k,hk=>by rw [show k=0 by omega]; exact A7A _
 | m +1,h,k,hk=>by
  have ih:=B69 O i m (by omega);have hl:=A4y O i m;simp only [B2p];generalize B2p O i m=X at*;have gd: ∀j,j<X.length->X.getD j []=X[j]! :=fun j hj=>by rw [Qz,List.getElem!_eq_getElem?_getD]; rfl
  unfold B0c;split
  ·rename_i hc;have hc:=(C19 _ _).1 hc;have g1: ∀j,((X.set i (X.getD (i+1+m) [])).set (i+1+m) (X.getD i [])).getD j []=if j=i+1+m then X.getD i [] else if j=i then X.getD (i+1+m) [] else X.getD j []:=fun j=>by
    rw [Qz,Qq0,Yz];by_cases e1:i+1+m=j
    ·rw [if_pos e1,if_pos (by omega),if_pos e1.symm]; rfl
    ·rw [if_neg e1,if_neg (fun q=>e1 q.symm),Qq0];by_cases e2:i=j
     ·rw [if_pos e2,if_pos (by omega),if_pos e2.symm]; rfl
     ·rw [if_neg e2,if_neg (fun q=>e2 q.symm),<-Qz]
   rw [g1,g1,if_neg (show i≠i+1+m by omega),if_pos rfl];by_cases e1:i+k=i+1+m
   ·rw [if_pos e1]; exact A1J _ _ hc
   ·rw [if_neg e1];by_cases e2:i+k=i
    ·rw [if_pos e2]; exact A7A _
    ·rw [if_neg e2];exact A3r _ _ _ (A1J _ _ hc) (ih k (by omega))
  ·rename_i hc;have hc: ¬A1L (X.getD (i+1+m) []) (X.getD i [])=true:=fun q=>hc ((C19 _ _).2 q);by_cases e:k=m+1
   ·rw [e,show i+(m+1)=i+1+m by omega]; simpa using hc
   ·exact ih k (by omega)
def C1A (X:List (List Int)) (i k j:Nat) (hi:i<X.length) (hk:k<X.length) (hik:i<k): ∃j',(B0c X i k).getD j []=X.getD j' []∧(j<i->j'=j)∧(i≤j->j<X.length->i≤j'∧j'<X.length):=by
 unfold B0c;split
 ·rw [Qz,Qq0,Yz];by_cases e1:k=j
  ·refine ⟨i,?_,by omega,by omega⟩;rw [if_pos e1,if_pos (by omega)]; rfl
  ·rw [if_neg e1,Qq0];by_cases e2:i=j
   ·refine ⟨k,?_,by omega,by omega⟩;rw [if_pos e2,if_pos (by omega)]; rfl
   ·refine ⟨j,?_,by omega,by omega⟩;rw [if_neg e2,<-Qz]
 ·exact ⟨j,rfl,fun _=>rfl,fun a b=>⟨a,b⟩⟩
def B2g (X:List (List Int)) (i:Nat): ∀m,i+m<X.length-> ∀j,∃j',(B2p X i m).getD j []=X.getD j' []∧(j<i->j'=j)∧(i≤j->j<X.length->i≤j'∧j'<X.length)
 | 0,_,j=>⟨j,rfl,fun _=>rfl,fun a b=>⟨a,b⟩⟩
 | m+1,h,j=>by
  have hl:=A4y X i m;obtain ⟨j1,e1,a1,b1⟩:=C1A (B2p X i m) i (i+1+m) j (by omega) (by omega) (by omega);obtain ⟨j2,e2,a2,b2⟩:=B2g X i m (by omega) j1;refine ⟨j2,by simp only [B2p]; rw [e1,e2],fun q=> ?_,fun q q2=> ?_⟩
  ·have:=a1 q; have:=a2 (by omega); omega
  ·have:=b1 q (by omega); exact b2 (by omega) (by omega)
def B6A (O:List (List Int)): ∀i,i≤O.length-> ∀a b,a<i->a≤b->b<O.length->A1L ((B0d O i).getD b []) ((B0d O i).getD a [])=false
 | 0,_,a,b,h,_,_=>absurd h (Nat.not_lt_zero _)
 | i+1,h,a,b,ha,hab,hb=>by
  have hl:=A5A O i;have ih:=B6A O i (by omega);simp only [B0d];by_cases e:a=i
  ·subst e;have:=B69 (B0d O a) a (O.length-(a+1)) (by omega) (b-a) (by omega);rwa [show a+(b-a)=b by omega] at this
  ·obtain ⟨a',q1,q2,-⟩:=B2g (B0d O i) i (O.length-(i+1)) (by omega) a;obtain ⟨b',r1,r2,r3⟩:=B2g (B0d O i) i (O.length-(i+1)) (by omega) b;rw [q1,r1,q2 (by omega)];by_cases hbi:b<i
   ·rw [r2 hbi]; exact ih a b (by omega) hab hb
   ·have:=r3 (by omega) (by omega);exact ih a b' (by omega) (by omega) (by omega)
def B5n (O:List (List Int)):B0d O O.length=sortLL O:=by
 refine A4d ?_ (A6S O _ (Qk _));have hl:=A5A O O.length;rw [ZJ];intro a b ha hb hab;have:=B6A O O.length (Qk _) a b (by omega) (by omega) (by omega);rwa [Qz,Qz,Qq ha,Qq hb] at this
def C3E (g:G):B2d g=sortLL (B2q g):=B5n _
def C1B {g:G} (h:A0m g=0) {d:List Int} (hd:d.length=g.n.toNat):B7S g d=decide (d∈B2d g):=by
 obtain ⟨hc,hcon⟩:=A0M h;have h12:=(A0h.1 hc).1;have h1:=C38 hc (n:=g.n.toNat) (by omega) hcon d;have h2:=B5k (g:=g) (y:=d);rw [B5m h] at h2;rw [Qj2,decide_eq_true_eq,h1,h2];exact ⟨fun q=>⟨hd,q⟩,fun q=>q.2⟩
def B8b (d x:List Int) (hd:d.length<2^40) (hx:x.length<2^40):ACall Tryz.prog 66 [A0k x,.t (.rptr [.slice (A0l d)])] (A0q (decide (x=d))):=by
 have hE:=A9A x d hx hd;generalize decide (x=d)=b at*;refine ACall.of_body Tryz.func66 rfl (by kernel_rfl) ?_;simp only [entry,Tryz.ntmps66,A0k];refine zU ?_;refine zR Qv5 (zc hE Qv5) Qv5 ?_;simp [A0s,A0r,Blk.cells,ty,Tryz.results66,A0o,A0p,toT,A0d,A0b,A0c,A0a,A0q]
noncomputable def trE (r:R) (d:List Int):Int:=if ribE r≠0 then ribE r else if B31 d r.n≠0 then B31 d r.n else if B7S r.g d=true then 0 else 15
noncomputable def trT (r:R) (d:List Int):Option (List Int):=C3D r (fun x=>decide (x=d)) (tI (treesG r.g))
def A3t {r:R} (hr:ROk r) {t:List Int} (h:t∈tI (treesG r.g)):RTree r t∧t.length+1=r.n.toNat:=by
 obtain ⟨T,hT,rfl⟩:=QY.1 h;obtain ⟨h1,h2⟩:=A20 hr hT;have h3:=(A2k.1 hT).2.2.1;exact ⟨⟨hr,h1,h2⟩,by rw [XW]; exact h3⟩
def C1C (r:R) (d:List Int) (hs:RSm r) (hT:ribE r=0->(treesG r.g).length≤16384) (hdl:d.length<2^40) (hok:ribE r=0->ROk r):
  ACall Tryz.prog 20 [tR r,A0k d] (.tup [A0k (if trE r d≠0 then [] else B7Z (trT r d)),A0j (if trE r d≠0 then trE r d else B8a (trT r d))]):=by
 have hR:=B3j r hs;have hC:=A9E d r.n hdl;unfold trE;by_cases h0:ribE r=0
 ·rw [if_neg (show ¬ribE r≠0 by omega)];rw [h0] at hR;have hrk:=hok h0;have h12:1≤r.n∧r.n≤12:=(A0h.1 hrk.c).1;by_cases h1:B31 d r.n=0
  ·rw [if_neg (show ¬B31 d r.n≠0 by omega)];rw [h1] at hC;obtain ⟨n,hn⟩: ∃n:Nat,r.n=n:=⟨r.n.toNat,by omega⟩;rw [hn] at h1;obtain ⟨q1,q2,q3,q4⟩:=B5d h1;have hB:=B36 r.g d (C4k hrk.c hs.es) h12 hs.es (by show d.length=r.n.toNat; omega) (fun v _=>by have:=q4 v; omega);by_cases hb:B7S r.g d=true
   ·rw [hb] at hB;rw [if_pos hb];have hj:A0m r.g=0:=by unfold A0m; rw [if_neg (by have:=hrk.c; omega),if_pos hrk.conn]
    have hA:=B5i r.g hs.es (hT h0);rw [hj] at hA;have hF:=C17 r hs (tI (treesG r.g)) (by rw [B1e]; have:=hT h0; omega) (fun t ht=>⟨(A3t hrk ht).1,by have:=(A3t hrk ht).2; omega⟩) 66 [.slice (A0l d)] (fun x=>decide (x=d)) (fun t _=>B8b d _ hdl (by rw [A7a]; omega));have hF2:ACall Tryz.prog 65 [tR r,A05 (tI (treesG r.g)),.t (.fn 66 [.rptr [.slice (A0l d)]])] (.tup [A0k (B7Z (trT r d)),A0j (B8a (trT r d))]):=hF;have hA2:ACall Tryz.prog 25 [tG r.g] (.tup [A05 (tI (treesG r.g)),A0j 0]):=hA;have e0:(if (0:Int)≠0 then ([]:List Int) else B7Z (trT r d))=B7Z (trT r d):=if_neg (by simp);have e1:(if (0:Int)≠0 then 0 else B8a (trT r d))=B8a (trT r d):=if_neg (by simp);rw [e0,e1];clear hF hA;generalize B7Z (trT r d)=V at*;generalize B8a (trT r d)=W at*;generalize tI (treesG r.g)=Ts at*;obtain ⟨n',es,ar⟩:=r;have hB2:ACall Tryz.prog 64 [tG ⟨n',es⟩,A0k d] (A0q true):=hB;have hA3:ACall Tryz.prog 25 [tG ⟨n',es⟩] (.tup [A05 Ts,A0j 0]):=hA2;refine ACall.of_body Tryz.func20 rfl (by kernel_rfl) ?_;simp only [entry,Tryz.ntmps20,tR,A0k];refine zU ?_;refine zJ (stop 1) trivial trivial trivial trivial ?_;refine AWp.freezeP 3 1 rfl rfl (ts:=[.slice (A0l d)]) rfl ?_;simp only [List.set_cons_succ,List.set_cons_zero];refine zR Qv5 (zc hR (zc hC (zc hB2 (zc hA3 (zc hF2 Qv5))))) Qv5 ?_;simp [A0s,A0r,Blk.cells,ty,Tryz.results20,A0o,A0p,toT,A0d,A0b,A0c,A0a,A0j,A0k]
   ·have hb:B7S r.g d=false:=by simpa using hb
    rw [hb] at hB;rw [hb];obtain ⟨n',es,ar⟩:=r;have hB2:ACall Tryz.prog 64 [tG ⟨n',es⟩,A0k d] (A0q false):=hB;refine ACall.of_body Tryz.func20 rfl (by kernel_rfl) ?_;simp only [entry,Tryz.ntmps20,tR,A0k];refine zU ?_;refine zR Qv5 (zc hR (zc hC (zc hB2 Qv5))) Qv5 ?_;simp [A0s,A0r,Blk.cells,ty,Tryz.results20,A0o,A0p,toT,A0d,A0b,A0c,A0a,A0j,A0k,A0l]
  ·rw [if_pos h1,if_pos h1,if_pos h1];generalize B31 d r.n=e at*;obtain ⟨n',es,ar⟩:=r;refine ACall.of_body Tryz.func20 rfl (by kernel_rfl) ?_;simp only [entry,Tryz.ntmps20,tR,A0k];refine zU ?_;refine zR (zc @h1 Qv5) (zc hR (zc hC Qv5)) Qv5 ?_;simp [A0s,A0r,Blk.cells,ty,Tryz.results20,A0o,A0p,toT,A0d,A0b,A0c,A0a,A0j,A0k,A0l]
 ·rw [if_pos h0,if_pos h0,if_pos h0];generalize ribE r=e at*;obtain ⟨n',es,ar⟩:=r;refine ACall.of_body Tryz.func20 rfl (by kernel_rfl) ?_;simp only [entry,Tryz.ntmps20,tR,A0k];refine zU ?_;refine zR (zc @h0 Qv5) (zc hR Qv5) Qv5 ?_;simp [A0s,A0r,Blk.cells,ty,Tryz.results20,A0o,A0p,toT,A0d,A0b,A0c,A0a,A0j,A0k,A0l]
open Go.Sp Go.RowKit
open Go.Sort (SWO)
def C5V (a b:List Int) (ha:a.length<2^40) (hb:b.length<2^40):ACall Tryz.prog 80 [A0k a,A0k b] (A0j (A1I a b)):=by
 have hC:=B4V a b ha hb;generalize A1I a b=c at*;refine ACall.of_body Tryz.func80 rfl (by kernel_rfl) ?_;simp only [entry,Tryz.ntmps80,A0k];refine zU ?_;refine zR Qv5 (zc hC Qv5) Qv5 ?_;simp [A0s,A0r,Blk.cells,ty,Tryz.results80,A0o,A0p,toT,A0d,A0b,A0c,A0a,A0j]
def A5n (a b:List Int):Go.Proofs.ltOf A1I a b=A1L a b:=by
 unfold Go.Proofs.ltOf;cases h:A1L a b with
 | true=>rw [decide_eq_true_eq]; exact (A8y a b).1 h
 | false=>rw [decide_eq_false_iff_not]; intro q; rw [(A8y a b).2 q] at h; cases h
def C5W:SWO (Go.Proofs.ltOf A1I) where
 irrefl x:=by rw [A5n]; exact A7A x
 trans x y z:=by
  rw [A5n,A5n,A5n];intro h1 h2;rw [<-Bool.not_eq_false];intro h;have h3:=A3r _ _ _ (A1J _ _ h1) (A1J _ _ h2);have:=B1S _ _ h h3;subst this;rw [A1J _ _ h1] at h2; cases h2
 ntrans x y z:=by
  rw [A5n,A5n,A5n];intro h1 h2;exact A3r _ _ _ h2 h1
def C7k (l:List (List Int)) (i j:Fin l.length):Int:=A1I l[i] l[j]
def C7l (l:List (List Int)):SWO (Go.Proofs.ltOf (C7k l)) where
 irrefl x:=C5W.irrefl _
 trans x y z:=C5W.trans _ _ _
 ntrans x y z:=C5W.ntrans _ _ _
def B6B (l:List (List Int)):(List.finRange l.length).map (fun i=>l[i])=l:=by
 apply VJ
 ·simp
 ·intro i p q; simp
def C1D (l:List (List Int)):(A6t (C7k l) (List.finRange l.length)).map (fun i=>l[i])=sortLL l:=by
 obtain ⟨h1,h2⟩:=B4l (C7l l) (List.finRange l.length);have h3:=h1.map fun i=>l[i];rw [B6B] at h3;refine A4d ?_ h3;rw [JQ,ZJ];intro i j hi hj hij;have:=h2 i j _ _ hij (Qq hi) (Qq hj);have e:Go.Proofs.ltOf (C7k l)=fun i j=>Go.Proofs.ltOf A1I l[i] l[j]:=rfl;rw [e] at this;simp only at this;rwa [A5n] at this
def C5X: ∀args w,(callFunc 28 args).run Tryz.prog w= .ok (.enter 28 args) w:=Go.Proofs.enters_of Tryz.func28 (by kernel_rfl) rfl
def C1E (f:FuncId) (hf: ∀a b:List Int,a.length<2^40->b.length<2^40->ACall Tryz.prog f [A0k a,A0k b] (A0j (A1I a b))) (l:List (List Int)) (hpos:0<l.length) (hl:l.length<2^40) (hB: ∀B,B∈l->B.length<2^40) {H:List Blk} {id cap:Nat} (hid:H[id]? =some (.box (sC l))):
  ACallH Tryz.prog 28 H [.c (.ref id 1 0 l.length cap),.c (.fn f [])] (H.set id (.box (sC (sortLL l)))) (.tup []):=by
 have hb: ∀i:Fin l.length,l[i].length<2^40:=fun i=>hB _ (Xw i.isLt)
 have h:=A9W (cap:=cap) laySortL (fun i:Fin l.length=>A0l l[i]) (C7k l) (C7l l) f (fun x y=>hf l[x] l[y] (hb x) (hb y)) C5X (List.finRange l.length) (by simpa using hpos) (by simp; omega) (
  by
  rw [hid]; congr 2;conv=>lhs; rw [<-B6B l]
  unfold sC
  rw [Qq1]; rfl)
 have e:(A6t (C7k l) (List.finRange l.length)).map (fun i=>ACell.slice (A0l l[i]) .none)=sC (sortLL l):=by
  rw [<-C1D]; unfold sC; rw [Qq1]; rfl
 rw [List.length_finRange] at h;rw [<-e];exact h
def C3F (l:List (List Int)) (hpos:0<l.length) (hl:l.length<2^40) (hB: ∀B,B∈l->B.length<2^40) {H:List Blk} {id cap:Nat} (hid:H[id]? =some (.box (sC l))):
  ACallH Tryz.prog 28 H [.c (.ref id 1 0 l.length cap),.c (.fn 80 [])] (H.set id (.box (sC (sortLL l)))) (.tup []):=C1E _ C5V l hpos hl hB hid
end
def C7X (n:Int) (es:List E) (a b:Nat): ∀(id:Nat) (blk:Blk),[Blk.box [.int .i64 n,.slice (A0f es) .none],.dead,.chain a b][id]? =some blk->B7c blk:=B5W fun blk hb=>by
 simp only [QV,XJ,or_false] at hb;rcases hb with rfl | rfl | rfl
 ·intro c hc;simp only [QV,XJ,or_false] at hc;rcases hc with rfl | rfl
  ·exact Qv3
  ·exact B3l es
 ·exact Qv3
 ·exact Qv3
noncomputable def B8r (g:G):List (List Int):=(tI (treesG g)).map (A4f (B3R g))
def C1F (g:G) (hl:g.es.length≤40) (hT:A0m g=0->(treesG g).length≤16384):
  ACall Tryz.prog 26 [tG g] (.tup [A05 (if A0m g≠0 then [] else sortLL (B8r g)),A0j (A0m g)]):=by
 have hJ:=B0X g hl;by_cases h0:A0m g=0
 ·rw [if_neg (by omega)];have hR:=B4K g hl;have hA:=B5i g hl (hT h0);have hTl:=hT h0;rw [h0] at hR hA hJ ⊢;have hr:=A7D h0;have hs:RSm (B3R g):=C51 hl h0;have h12:1≤g.n∧g.n≤12:=(A0h.1 hr.c).1;have hD: ∀t,t∈tI (treesG g)->ACall Tryz.prog 56 [tR (B3R g),A0k t] (A0k (A4f (B3R g) t)):=fun t ht=>by
   have:=A3t hr ht;have h3:(B3R g).n.toNat=g.n.toNat:=rfl;exact A2E (B3R g) t hs this.1 (by omega)
  have hne:tI (treesG g)≠[]:=by
   obtain ⟨hM,hJ2⟩:=A6V h0;obtain ⟨T,hT2⟩:=B2f hr hM hJ2;intro e;have:zI T∈tI (treesG g):=QY.2 ⟨T,hT2,rfl⟩;rw [e] at this; cases this
  have hdl: ∀t,(A4f (B3R g) t).length≤12:=fun t=>by rw [A7a]; show g.n.toNat≤12; omega
  have hR2:ACall Tryz.prog 79 [tG g] (.tup [tR (B3R g),A0j 0]):=hR;have hA2:ACall Tryz.prog 25 [tG g] (.tup [A05 (tI (treesG g)),A0j 0]):=hA;clear hR hA hT;have hTl2:(tI (treesG g)).length≤16384:=by rw [B1e]; exact hTl
  unfold B8r;generalize A4f (B3R g)=dF at*;generalize tI (treesG g)=Ts at*;have hln:(Ts.map dF).length=Ts.length:=XW _;have hS:=fun (H:List Blk) (cap:Nat) hid=>C3F (Ts.map dF) (by rw [hln]; exact Wy.2 hne) (by omega) (fun B hB=>by obtain ⟨t,_,rfl⟩:=QY.1 hB; have:=hdl t; omega) (H:=H) (id:=3) (cap:=cap) hid;generalize B3R g=r0 at*;clear hr hs hTl h12;obtain ⟨rn,res,rar⟩:=r0;obtain ⟨n,es⟩:=g;refine ACall.of_bodyF Tryz.func26 rfl (by kernel_rfl) ?_;simp only [entry,Tryz.ntmps26,tG];refine zU ?_;refine zF (stop 11) Qv5 (zc hJ (zc hR2 (zc hA2 Qv5))) Qv5 Qv5 (ed fun hp hpc=>?_);refine AWp.weak (Weak.opens ((fun t f=>[f,f,f,f,f,f,f,f,t,f,f,f,f,f,f,f,f,f,f,f,f,f,f,f,f,f,f,f,f,f,f,f,f,f,f,f,f,f,f,f,f,f,f,f,f,f,f,f]) true false) 1 (by first | omega | simp)) ?_;simp only [A2t,A7l,List.length_cons,List.length_nil,Xv,Nat.reduceAdd,List.cons_append,List.nil_append];refine zF Qv5 (zc @A0i Qv5) Qv5 Qv5 Qv5 (ed fun hp hpc=>?_);refine AWp.loopS (α:=Nat) 48 (fun i=>[(5,.c (.ptr 1 0)),(8,.c (.slice (A0n ((Ts.take i).map dF)) (.chain 2))),(32,.c (.slice (A0n Ts) .none)),(33,.c (.int .i64 (Ts.length:Int))),(34,.c (.int .i64 (i:Int)))]) (fun i=>[.box [.int .i64 n,.slice (A0f es) .none],.box [.int .i64 rn,.slice (A0f res) .none,.slice (A0n rar) .none],.chain i 1]) (fun i=>i≤Ts.length) (fun i=>Ts.length-i) (0) (hk:=Weak.headL 3 48 [5,8,32,33,34] (zWs @A6R)) (h0:=?_) (round:=fun i hI=>?_)
  ·exact Xj _
  ·have hi:i≤Ts.length:=hI;clear hI;by_cases hlt:i<Ts.length
   ·have hltI:(i:Int)<(Ts.length:Int):=by omega
    have e0:=Qq hlt;have e1:=A0D e0;have d1:=hD _ (Xw hlt);have t1:(Ts.take (i+1)).map dF=(Ts.take i).map dF++[dF Ts[i]]:=by rw [Xy hlt,Jz]; rfl
    have hlk:((Ts.take i).map dF).length=i:=by rw [XW,Wk]; omega
    generalize dF Ts[i]=y at*;generalize Ts[i]=x at*;generalize hK1:(Ts.take (i+1)).map dF=K1 at*;generalize (Ts.take i).map dF=K0 at*;refine zRc (zc @hltI (zc @e1 (zc @A0i (zc @A2x (zc @hlk Qv5))))) (zc d1 Qv5) @A1F ?_;rw [<-t1];refine ⟨i+1,Weak.headF 3 48 [5,8,32,33,34] (zc @hK1 Qv5) (zWs @A6R),?_,?_⟩
    ·exact hlt
    ·omega
   ·have ei:i=Ts.length:=by omega
    have hnl: ¬((i:Int)<(Ts.length:Int)):=by omega
    rw [ei] at hnl;rw [ei,Zz];have hne2:Ts.map dF≠[]:=by simpa using hne
    generalize Ts.map dF=O at*;rw [<-hln] at hnl;rw [<-hln];refine zF (C75 16) (zc @hnl Qv5) Qv5 Qv5 Qv5 (ed fun hp hpc=>?_);refine FWp.weak (Weak.head2 (m:=3) (by omega) ((fun t f=>[f,f,f,f,f,f,f,f,t,f,f,f,f,f,f,f,f,f,f,f,f,f,f,f,f,f,f,f,f,f,f,f,f,f,f,f,f,f,f,f,f,f,f,f,f,f,f,f]) true false) rfl rfl (zWs @A6R)) ?_;simp only [mask,List.take_succ_cons,List.take_zero,List.set_cons_succ,List.set_cons_zero];refine FWp.weak (Weak.dead 1 rfl (Xj _)) ?_;simp only [List.set_cons_succ,List.set_cons_zero];refine FWp.thawLT 8 rfl rfl (fun r hr=>A1F hr) (by decide) (fun r hr=>B5V hr) (by simpa [A0n] using hne2) (C7X _ _ _ _) (by simp [C2o,B2I,A8Q]) (fun id h=>absurd h (Nat.not_lt_zero _)) (fun cap hcap=> ?_);rw [C1i,A0i];rw [A0i] at hcap;simp only [List.length_cons,List.length_nil,List.set_cons_succ,List.set_cons_zero,List.cons_append,List.nil_append,Nat.reduceAdd];refine FWp.of_awp ?_;have hsl:(sortLL O).length=O.length:=(A1k O).length_eq;have hS2:=hS [.box [.int .i64 n,.slice (A0f es) .none],.dead,.chain O.length 1,.box (sC O)] cap rfl;generalize sortLL O=X at*;refine zM Qv5 Qv5 Qv5 (zc hS2 Qv5) Qv5 (ed fun hp hpc=>?_);have h1:=C1j X;rw [hsl] at h1;have h2:(sC X).take O.length=sC X:=Zw (by rw [B1b]; omega);simp [A0s,A0r,Tryz.results26,A0o,A0p,A0d,A0b,Blk.cells,hcap,h2,h1.1,h1.2];rw [if_pos (by rw [B1b]; omega)];rfl
 ·rw [if_pos h0];generalize A0m g=e at*;obtain ⟨n',es⟩:=g;refine ACall.of_body Tryz.func26 rfl (by kernel_rfl) ?_;simp only [entry,Tryz.ntmps26,tG];refine zU ?_;refine zR (zc @h0 Qv5) (zc hJ Qv5) Qv5 ?_;simp [A0s,A0r,Blk.cells,ty,Tryz.results26,A0o,A0p,toT,A0d,A0b,A0c,A0a,A0j,A05,A0n]
def A7b {r:R} {t:List Int} {p:Nat->Nat} (P:TourP (2*(endsL r.es).length) (A09 (sR (endsL r.es) r.ar) (A3u t)) (beginR r) p) {v:Nat} (hv:v<r.n.toNat):(A4f r t).getD v 0=A5f (endsL r.es).length (gR (endsL r.es)) p (A3u t) v:=by
 have h:=A81 r t (2*(endsL r.es).length) hv;unfold A4f;rw [Qz,h,Option.getD_some];exact C3w P v
def B2h {r:R} (hr:ROk r) {T:List Nat} (hT:T∈treesG r.g) (hE:(endsL r.es).length≠0): ∃p,TourP (2*(endsL r.es).length) (A09 (sR (endsL r.es) r.ar) (A3u (zI T))) (beginR r) p:=by
 obtain ⟨h1,h2⟩:=A20 hr hT;exact B1W hr h1 h2 (B1Y hr hE)
def C5Y {r:R} (hr:ROk r) {T T':List Nat} (hT:T∈treesG r.g) (hT':T'∈treesG r.g) (he:A4f r (zI T)=A4f r (zI T')):T=T':=by
 have a1:=A2k.1 hT;have a2:=A2k.1 hT';have key: ∀x,x∈T↔x∈T':=by
  by_cases hE:(endsL r.es).length=0
  ·have e1:(endsL r.g.es).length=0:=hE;intro x;constructor
   ·intro hx; have:=a1.2.1 x hx; omega
   ·intro hx; have:=a2.2.1 x hx; omega
  ·obtain ⟨p,P⟩:=B2h hr hT hE;obtain ⟨p',P'⟩:=B2h hr hT' hE;obtain ⟨t1,t2⟩:=A20 hr hT;obtain ⟨t3,t4⟩:=A20 hr hT';have hk: ∀x,x<2*(endsL r.es).length->gR (endsL r.es) (sR (endsL r.es) r.ar x)=gR (endsL r.es) x:=fun x hx=>(A2C hr).keep x hx;have hb: ∀v,v<r.n.toNat->A5f (endsL r.es).length (gR (endsL r.es)) p (A3u (zI T)) v=A5f (endsL r.es).length (gR (endsL r.es)) p' (A3u (zI T')) v:=fun v hv=>by
    rw [<-A7b P hv,<-A7b P' hv,he]
   have hq:=B6i hk (A2C hr).lt (A5i hr t1 t2) (A5i hr t3 t4) P P' (B0Z (A2C hr).lt hb);intro x;have hz: ∀(U:List Nat),(x:Int)∈zI U↔x∈U:=fun U=>by
    unfold zI; rw [QY];exact ⟨fun ⟨a,ha,e⟩=>by have:a=x:=Int.ofNat.inj e; exact this▸ha,fun h=>⟨x,h,rfl⟩⟩
   have hx2:x<(endsL r.es).length->(x∈T↔x∈T'):=fun hx=>by
    have:=hq x hx;unfold A3u at this;rw [decide_eq_decide,hz,hz] at this; exact this
   constructor
   ·intro h; exact (hx2 (a1.2.1 x h)).1 h
   ·intro h; exact (hx2 (a2.2.1 x h)).2 h
 refine Qj5 (le:=(·< ·)) (fun a b _ _ q1 q2=>by omega) a1.1 a2.1 ?_;exact (WZ (a1.1.imp fun h=>Qx5 h) (a2.1.imp fun h=>Qx5 h)).2 key
def C1G {r:R} (hr:ROk r) {T:List Nat} (hT:T∈treesG r.g):BrkD (endsL r.es).length r.n.toNat (gR (endsL r.es)) (fun v=>(A4f r (zI T)).getD v 0):=by
 obtain ⟨t1,t2⟩:=A20 hr hT;by_cases hE:(endsL r.es).length=0
 ·have hB:BrkD (endsL r.es).length r.n.toNat (gR (endsL r.es)) (C3y (endsL r.es).length (gR (endsL r.es)) (fun f=>2*f) (A3u (zI T))):=C0J (fun e he=> .inl rfl) (A2C hr).lt (A5i hr t1 t2);refine hB.congr fun v hv=> ?_;have h:=A81 r (zI T) (2*(endsL r.es).length) hv;unfold A4f;rw [Qz,h,Option.getD_some,hE];rfl
 ·obtain ⟨p,P⟩:=B2h hr hT hE;have hB:=A6I (p:=p) (A2C hr).lt (A5i hr t1 t2);exact hB.congr fun v hv=>(A7b P hv).symm
def C5Z {r:R} (hr:ROk r) {M:Nat->Nat->Int} (hM:Mult r.n.toNat M) (hJ:Joins (endsL r.es).length r.n.toNat (gR (endsL r.es)) M) {x:List Int} (hl:x.length=r.n.toNat) (hD:BrkD (endsL r.es).length r.n.toNat (gR (endsL r.es)) (fun v=>x.getD v 0)) (hE:(endsL r.es).length≠0): ∃T,T∈treesG r.g∧A4f r (zI T)=x:=by
 obtain ⟨T,p,hT,P,hs⟩:=B64 hr hM hJ (B1Y hr hE) hD;refine ⟨T,hT,VJ (by rw [A7a,hl]) fun i h1 h2=> ?_⟩;have hi:i<r.n.toNat:=by rw [<-hl]; exact h2
 have h3:=A7b P hi;rw [hs i hi,Qz,Qz,Qq h1,Qq h2] at h3;exact h3
def C6a {r:R} {q:List Int->Bool} {T:List Nat} (hT:T∈treesG r.g) (hq:q (A4f r (zI T))=true) (hu: ∀T',T'∈treesG r.g->q (A4f r (zI T'))=true->T'=T):C3D r q (tI (treesG r.g))=some (zI T):=by
 unfold C3D;cases h:(tI (treesG r.g)).find? (fun t=>q (A4f r t)) with
 | none=>
  rw [List.find?_eq_none] at h;exact absurd hq (h (zI T) (QY.2 ⟨T,hT,rfl⟩))
 | some t=>
  have h1:=List.find?_some h;obtain ⟨T',hT',e⟩:=QY.1 (List.mem_of_find?_eq_some h);subst e;rw [hu T' hT' h1]; rfl
def C1H {g:G} (h:A0m g=0):sortLL (B8r g)=B2d g:=by
 obtain ⟨hM,hJ⟩:=A6V h;have hr:=A7D h;rw [C3E];refine B3y ?_;have hnT:(treesG g).Nodup:=A6c (show acyc (pkN (endsL g.es) []) from A2P);have hmap:B8r g=(treesG g).map fun T=>A4f (B3R g) (zI T):=by unfold B8r tI; rw [Qq1]; rfl
 have hnd:(B8r g).Nodup:=by
  rw [hmap];refine JQ.2 (hnT.imp_of_mem fun {a b} ha hb hab e=>hab (C5Y hr ha hb e))
 refine (WZ hnd (B3C _ _ _)).2 fun x=> ?_;have hg:=B5m h (x:=x);unfold B2q at hg;rw [hg,hmap,QY];constructor
 ·rintro ⟨T,hT,rfl⟩;exact ⟨A7a _ _,C1G hr hT⟩
 ·rintro ⟨hl,hD⟩;by_cases hE:(endsL g.es).length=0
  ·obtain ⟨T,hT⟩:=B2f hr hM hJ;refine ⟨T,hT,?_⟩;have hB:=C1G hr hT;obtain ⟨hc,hcon⟩:=A0M h;have h12:=(A0h.1 hc).1;have hn1:g.n.toNat=1:=by
    refine QJ fun hne=> ?_;have:=(A6M hc (n:=g.n.toNat) (by omega)).1 hcon 0 1 (by omega) (by omega);rw [ZY.1 hE,A6H] at this;cases this
   have d1:=hB.deg;have d2:=hD.deg;have n2:(B3R g).n.toNat=1:=hn1;rw [n2] at d1;rw [hn1] at d2;simp only [sumR] at d1 d2;have e1:(endsL (B3R g).es).length=(endsL g.es).length:=rfl;refine VJ (by rw [A7a,hl]; rfl) fun i h1 h2=> ?_;have hi:i=0:=by omega
   subst hi;rw [Qz,Qq h1,Option.getD_some] at d1;rw [Qz,Qq h2,Option.getD_some] at d2;omega
  ·exact C5Z hr hM hJ hl hD hE
def B6C {r:R} (h:ribE r=0) {T:List Nat} (hT:T∈treesG r.g):B3Q r (zI T)=0:=by
 have hr:=B9D h;obtain ⟨h1,h2⟩:=A20 hr hT;have h3:=A2k.1 hT;have hj:A0m r.g=0:=by unfold A0m; rw [if_neg (by have:=hr.c; omega),if_pos hr.conn]
 have hs:A49 (endsL r.g.es).length none (zI T)=0:=A9w h1 (JQ.2 (h3.1.imp fun {a b} hab=>by omega)) (fun w hw=>by cases hw);have hn:=A3s hr;unfold B3Q;rw [if_neg (by omega)];unfold A8e;rw [if_neg (by omega),if_neg (by omega),if_neg ?_,if_pos (show treeB r.g.n.toNat (endsL r.g.es) (zI T)=true from h2)];have hl:(zI T).length=T.length:=by unfold zI; rw [XW]
 have h4:T.length+1=r.n.toNat:=h3.2.2.1;have e:r.g.n=r.n:=rfl;rw [hl,e]; omega
def tgG:G:=⟨3,[⟨0,1,1⟩,⟨0,2,1⟩,⟨1,2,1⟩]⟩
def tgR:R:=⟨3,[⟨0,1,1⟩,⟨0,2,1⟩,⟨1,2,1⟩],[[0,2],[1,4],[3,5]]⟩
def B6D:ribE tgR=0:=by decide+kernel
def B3O:ROk tgR:=B9D B6D
def C70:A0m tgG=0:=by decide+kernel
def C6b:endsL tgR.es=[(0,1),(0,2),(1,2)]:=by decide+kernel
def C6c {t:List Int} {es:List E} (he:endsL es=pkL (endsL tgR.es) t) (hl:t.length=2) (hc:checkG ⟨3,es⟩=0) (hb:connB ⟨3,es⟩=true):treeB 3 (endsL tgR.es) t=true:=by
 have h:=A2W (g:=⟨3,es⟩) (n:=3) hc rfl;rw [hb] at h;have h2:=of_decide_eq_true h.symm;unfold treeB;refine decide_eq_true ⟨by rw [hl]; rfl,?_⟩;rw [<-he]; exact h2
def C1I {T:List Nat} (hp:T.Pairwise (·< ·)) (hlt: ∀x,x∈T->x<3) (hb:treeB 3 (endsL tgR.es) (zI T)=true):T∈treesG tgR.g:=by
 have hlt2: ∀x,x∈T->x<(endsL tgR.es).length:=fun x hx=>by rw [C6b]; exact hlt x hx
 have h3:=(A6U (A3s B3O) (A9D B3O) hlt2).1 hb;exact A2k.2 ⟨hp,hlt2,h3.1,h3.2⟩
def C7m:[0,1]∈treesG tgR.g:=C1I (by decide) (by decide) (C6c (es:=[⟨0,1,1⟩,⟨0,2,1⟩]) (by decide+kernel) rfl (by decide+kernel) (by decide+kernel))
def C7n:[0,2]∈treesG tgR.g:=C1I (by decide) (by decide) (C6c (es:=[⟨0,1,1⟩,⟨1,2,1⟩]) (by decide+kernel) rfl (by decide+kernel) (by decide+kernel))
def C7o:[1,2]∈treesG tgR.g:=C1I (by decide) (by decide) (C6c (es:=[⟨0,2,1⟩,⟨1,2,1⟩]) (by decide+kernel) rfl (by decide+kernel) (by decide+kernel))
def B6E:A4f tgR [0,1]=[0,1,0]:=by decide+kernel
def B6F:A4f tgR [0,2]=[0,0,1]:=by decide+kernel
def C1J:A4f tgR [1,2]=[1,0,0]:=by decide+kernel
def C6d:tourL tgR [0,1] (2*(endsL tgR.es).length)=[0,4,1,2,5,3]:=by decide+kernel
def C4q:zI [0,1]=[0,1]:=by decide
def C4r:zI [0,2]=[0,2]:=by decide
def C4s:zI [1,2]=[1,2]:=by decide
def B6G:B3Q tgR [0,1]=0:=by
 have h:=B6C B6D C7m;rw [C4q] at h; exact h
def C4t:B3Q tgR [0,2]=0:=by
 have h:=B6C B6D C7n;rw [C4r] at h; exact h
def B5o:(treesG tgR.g).Perm [[0,1],[0,2],[1,2]]:=by
 have hnT:(treesG tgR.g).Nodup:=A6c (show acyc (pkN (endsL tgR.g.es) []) from A2P);refine (WZ hnT (by decide)).2 fun T=>⟨fun h=> ?_,fun h=> ?_⟩
 ·obtain ⟨h1,h2,h3,-⟩:=A2k.1 h;have e3:(endsL tgR.g.es).length=3:=by decide+kernel
  rw [e3] at h2
  match T,h1,h2,h3 with
  | [a,b],h1,h2,h3=>
   have hb:=h2 b (by simp);have hab:a<b:=by simpa using h1
   have:(a=0∧b=1)∨(a=0∧b=2)∨(a=1∧b=2):=by omega
   rcases this with ⟨rfl,rfl⟩ | ⟨rfl,rfl⟩ | ⟨rfl,rfl⟩<;>decide
  | [],_,_,h3=>cases h3
  | [a],_,_,h3=>cases h3
  | a::b::c::T,_,_,h3=>
   have e:tgR.g.n.toNat=3:=rfl;rw [e] at h3;simp at h3
 ·simp only [QV,XJ,or_false] at h;rcases h with rfl | rfl | rfl
  ·exact C7m
  ·exact C7n
  ·exact C7o
def B6H:(treesG tgR.g).length=3:=by rw [B5o.length_eq]; rfl
def C7p:B3R tgG=tgR:=by
 have e:A1d (endsL tgG.es) tgG.n.toNat (2*(endsL tgG.es).length)=[[0,2],[1,4],[3,5]]:=by decide+kernel
 unfold B3R;rw [e]; rfl
def C7q:sortLL (B8r tgG)=[[0,0,1],[0,1,0],[1,0,0]]:=by
 refine (A4d (by decide) ?_).symm;have e:B8r tgG=(treesG tgR.g).map fun T=>A4f tgR (zI T):=by unfold B8r tI; rw [Qq1,C7p]; rfl
 rw [e];refine (List.Perm.trans (B5o.map _) ?_).symm;have e2:([[0,1],[0,2],[1,2]]:List (List Nat)).map (fun T=>A4f tgR (zI T))=[A4f tgR [0,1],A4f tgR [0,2],A4f tgR [1,2]]:=rfl;rw [e2,B6E,B6F,C1J];decide
def C7r:B7S tgR.g [1,0,0]=true:=by decide+kernel
def C4u:trE tgR [1,0,0]=0:=by
 unfold trE;rw [if_neg (by rw [B6D]; simp),if_neg (by decide),if_pos C7r]
def C7s {T:List Nat} (h:T∈treesG tgR.g):T=[0,1]∨T=[0,2]∨T=[1,2]:=by
 have:=B5o.mem_iff.1 h;simpa using this
def C4v:trT tgR [1,0,0]=some [1,2]:=by
 have h:=C6a (r:=tgR) (q:=fun x=>decide (x=[1,0,0])) (T:=[1,2]) C7o (by rw [C4s]; exact decide_eq_true C1J) fun T' hT' h=>by
  have h1:=of_decide_eq_true h;rcases C7s hT' with rfl | rfl | rfl
  ·rw [C4q,B6E] at h1; exact absurd h1 (by decide)
  ·rw [C4r,B6F] at h1; exact absurd h1 (by decide)
  ·rfl
 rw [C4s] at h; exact h
noncomputable def C1K (g:G):Bool:=A2p g 5 8&&(decide (A0m g≠0)||decide ((A13 g).length≤24))
def C3G (g:G) (hsm:A2p g 5 8=true->g.es.length≤40∧(checkG g=0->(endsL g.es).length≤8)):ACall Tryz.prog 18 [tG g] (A0q (C1K g)):=by
 have hF:=C5N g;unfold C1K;cases hb:A2p g 5 8 with
 | false=>
  rw [hb] at hF;rw [VW];clear hsm hb;obtain ⟨n,es⟩:=g;refine ACall.of_body Tryz.func18 rfl (by kernel_rfl) ?_;simp only [entry,Tryz.ntmps18,tG];refine zU ?_;refine zR Qv5 (zc hF Qv5) Qv5 ?_;simp [A0s,A0r,Blk.cells,ty,Tryz.results18,A0o,A0p,toT,A0d,A0b,A0c,A0a,A0q]
 | true=>
  rw [hb] at hF;rw [VQ];obtain ⟨h1,h2⟩:=hsm hb;have hJ:=A5d g h1;by_cases h0:A0m g=0
  ·obtain ⟨hc,-⟩:=A0M h0;have hA:=B3B g hc h1 (by have:=h2 hc; omega);rw [h0] at hJ ⊢;rw [decide_eq_false (by simp),Qq7];generalize A13 g=Ts at*;clear h2 hb h0;obtain ⟨n,es⟩:=g;by_cases hl:Ts.length≤24
   ·have hlI:(Ts.length:Int)≤24:=by omega
    rw [decide_eq_true hl];refine ACall.of_body Tryz.func18 rfl (by kernel_rfl) ?_;simp only [entry,Tryz.ntmps18,tG];refine zU ?_;refine zR (zc @hlI (zc @A0i Qv5)) (zc hF (zc hJ (zc hA Qv5))) Qv5 ?_;simp [A0s,A0r,Blk.cells,ty,Tryz.results18,A0o,A0p,toT,A0d,A0b,A0c,A0a,A0q]
   ·have hlI: ¬(Ts.length:Int)≤24:=by omega
    rw [decide_eq_false hl];refine ACall.of_body Tryz.func18 rfl (by kernel_rfl) ?_;simp only [entry,Tryz.ntmps18,tG];refine zU ?_;refine zR (zc @hlI (zc @A0i Qv5)) (zc hF (zc hJ (zc hA Qv5))) Qv5 ?_;simp [A0s,A0r,Blk.cells,ty,Tryz.results18,A0o,A0p,toT,A0d,A0b,A0c,A0a,A0q]
  ·rw [decide_eq_true h0,Bool.true_or];generalize A0m g=e at*;clear h2 hb;obtain ⟨n,es⟩:=g;refine ACall.of_body Tryz.func18 rfl (by kernel_rfl) ?_;simp only [entry,Tryz.ntmps18,tG];refine zU ?_;refine zR (zc @h0 Qv5) (zc hF (zc hJ Qv5)) Qv5 ?_;simp [A0s,A0r,Blk.cells,ty,Tryz.results18,A0o,A0p,toT,A0d,A0b,A0c,A0a,A0q]
end Go.Proofs.YtdbdfkohpjefjaaGreat
