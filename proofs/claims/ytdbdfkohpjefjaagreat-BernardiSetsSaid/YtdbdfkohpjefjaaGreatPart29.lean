/- A part of the proof. -/
import Derived.Test.YtdbdfkohpjefjaaGreatPart25
import Derived.Test.YtdbdfkohpjefjaaGreatPart27
import Derived.Test.YtdbdfkohpjefjaaGreatPart28
import Derived.Test.YtdbdfkohpjefjaaGreatPart26
set_option linter.all false
set_option maxHeartbeats 4000000
set_option maxRecDepth 100000
namespace Go.Proofs.YtdbdfkohpjefjaaGreat
open Go.Sp
def C5b (g:G) (l:List Int):Int:=if checkG g≠0 then checkG g else A4h (endsL g.es).length none l
theorem B8p (g:G) (l:List Int) (hg:g.es.length≤40) (hl:l.length<2^40):ACall Tryz.prog 180 [tG g,A0n l] (A0m (C5b g l)):=by
 have hS:=C2i g (by omega);unfold C5b;by_cases hc:checkG g=0
 case neg=>
  rw [if_pos hc];rw [if_pos hc] at hS;generalize checkG g=E at*;obtain ⟨n,es⟩:=g;refine ACall.of_body Tryz.func180 rfl (by kernel_rfl) ?_;simp only [entry,Tryz.ntmps180,tG,A0n];refine zU ?_;refine zR (zc @hc Qw8) (zc hS Qw8) Qw8 ?_;simp [A0z,A0y,Blk.cells,ty,Tryz.results180,A0t,A0u,toT,A0d,A0b,A0c,A0a,A0m]
 rw [if_neg (by omega)];rw [if_neg (by omega),hc] at hS;have hlen:=A26 hg hc;generalize (endsL g.es).length=N at*;clear hc hg;obtain ⟨n,es⟩:=g;refine ACall.of_body Tryz.func180 rfl (by kernel_rfl) ?_;simp only [entry,Tryz.ntmps180,tG,A0n];refine zU ?_;refine zR (zc @A0e Qw8) (zc hS Qw8) Qw8 ?_;refine AWp.loopS (α:=Nat) 45 (fun k=>[(1,.c (.slice (A0o l) .none)),(2,.c (.ptr 0 0)),(5,.c (.int .i64 (N:Int))),(17,.c (.slice (A0o l) .none)),(18,.c (.int .i64 l.length)),(19,.c (.int .i64 (k:Int)))]) (fun k=>[.box [.int .i64 n,.slice (A0f es) .none]]) (fun k=>k≤l.length∧A4h N none l=A4h N (match k with | 0=>none | j+1=>l[j]?) (l.drop k)) (fun k=>l.length-k) (0) (hk:=Weak.headL 1 45 [1,2,5,17,18,19] zW) (h0:=?_) (round:=fun k hI=>?_)
 ·exact ⟨Xj _,rfl⟩
 ·obtain ⟨hk,hx⟩:=hI;by_cases hlt:k<l.length
  ·have hltI:(k:Int)<l.length:=by omega
   have e0:=Qq hlt;have e1:=A0w e0;rw [Zy hlt,A4h] at hx;generalize hv:l[k]=v at*;by_cases v0:v<0
   ·rw [if_pos (by omega)] at hx;rw [hx];refine zR (zc @hltI (zc @e1 (zc @v0 Qw8))) Qw8 Qw8 ?_;simp [A0z,A0y,Blk.cells,ty,Tryz.results180,A0t,A0u,toT,A0d,A0b,A0c,A0a,A0m]
   by_cases v1:(N:Int)≤v
   ·rw [if_pos (by omega)] at hx;rw [hx];refine zR (zc @hltI (zc @e1 (zc @v0 (zc @v1 Qw8)))) Qw8 Qw8 ?_;simp [A0z,A0y,Blk.cells,ty,Tryz.results180,A0t,A0u,toT,A0d,A0b,A0c,A0a,A0m]
   rw [if_neg (by omega)] at hx;cases k with
   | zero=>
    simp only [reduceCtorEq,false_and,exists_false,if_false] at hx;refine zR (zc @hltI (zc @e1 (zc @v0 (zc @v1 Qw8)))) Qw8 Qw8 ?_;refine ⟨0+1,Weak.headN 1 45 [1,2,5,17,18,19] zW,?_,?_⟩
    ·exact ⟨hlt,hx.trans (by simp only [e0])⟩
    ·omega
   | succ j=>
    have e2:=Qq (show j<l.length by omega);have e3:=A0w e2;have hj1:((j+1:Nat):Int)-1=(j:Int):=by omega
    have hj2:(0:Int)<((j+1:Nat):Int):=by omega
    have hj3:(j:Int)<l.length:=by omega
    simp only [e2,JY,exists_eq_left'] at hx;generalize hu:l[j]=u at*;by_cases hvu:v≤u
    ·rw [if_pos hvu] at hx;rw [hx];refine zR (zc @hltI (zc @e1 (zc @e3 (zc @hj1 (zc @hj2 (zc @hj3 (zc @A0e (zc @v0 (zc @v1 (zc @hvu Qw8)))))))))) Qw8 Qw8 ?_;simp [A0z,A0y,Blk.cells,ty,Tryz.results180,A0t,A0u,toT,A0d,A0b,A0c,A0a,A0m]
    ·rw [if_neg hvu] at hx;refine zR (zc @hltI (zc @e1 (zc @e3 (zc @hj1 (zc @hj2 (zc @hj3 (zc @A0e (zc @v0 (zc @v1 (zc @hvu Qw8)))))))))) Qw8 Qw8 ?_;refine ⟨j+1+1,Weak.headN 1 45 [1,2,5,17,18,19] zW,?_,?_⟩
     ·exact ⟨hlt,hx.trans (by simp only [e0])⟩
     ·omega
  ·have e:k=l.length:=by omega
   have e:A4h N none l=0:=by rw [hx,e,Qx3]; rfl
   have hnl: ¬((k:Int)<l.length):=by omega
   rw [e];refine zR (zc @hnl Qw8) Qw8 Qw8 ?_;simp [A0z,A0y,Blk.cells,ty,Tryz.results180,A0t,A0u,toT,A0d,A0b,A0c,A0a,A0m]
noncomputable def A8Z (g:G) (t:List Int):G:=⟨g.n,A2Q (A5h (pkL (endsL g.es) t))⟩
theorem B8q {n:Int} {M:List (Int×Int)} (hM: ∀p,p∈M->okP n p) {x y:Int}:(x,y)∈endsL (A2Q (A5h M))↔ ∃p,p∈M∧min p.1 p.2=x∧max p.1 p.2=y:=by
 have hb:=B8d hM M.length (QQ _);have hcnt: ∀a b,A3v (A5h M) a b=(M.countP (isP a b):Int):=fun a b=>by
  have e:=C09 M a b M.length (QQ _);rwa [Zw] at e
 rw [Zw] at hb;constructor
 ·intro h;obtain ⟨e,he,hx⟩:=A37 h;have he':=(A1u (A5h M)).mem_iff.1 he;have hc:=A2V hb.d he';have hm:=hb.m e he';rw [hcnt] at hc;have hpos:0<M.countP (isP e.a e.b):=by omega
  obtain ⟨p,hp,hq⟩:=List.countP_pos_iff.1 hpos;unfold isP at hq;simp only [decide_eq_true_eq] at hq;cases hx;exact ⟨p,hp,hq.1,hq.2⟩
 ·rintro ⟨p,hp,rfl,rfl⟩;have hpos:0<M.countP (isP (min p.1 p.2) (max p.1 p.2)):=List.countP_pos_iff.2 ⟨p,hp,by unfold isP; simp⟩;have hne:A3v (A5h M) (min p.1 p.2) (max p.1 p.2)≠0:=by rw [hcnt]; omega
  have hmem:=A2W hne;have hm:=hb.m _ hmem;exact Qq1.2 ⟨_,(A1u (A5h M)).mem_iff.2 hmem,WV.2 ⟨by simp only at hm ⊢; omega,rfl⟩⟩
theorem B0B {l m:List (Int×Int)} (h: ∀x y,(x,y)∈l->(x,y)∈m∨(y,x)∈m) {u w:Nat} (hc:Conn l u w):Conn m u w:=by
 induction hc with
 | refl=>exact .refl
 | step _ hs ih=>
  rcases hs with hs | hs
  ·rcases h _ _ hs with q | q
   ·exact ih.step (.inl q)
   ·exact ih.step (.inr q)
  ·rcases h _ _ hs with q | q
   ·exact ih.step (.inr q)
   ·exact ih.step (.inl q)
theorem C0K {n:Int} {M:List (Int×Int)} (hM: ∀p,p∈M->okP n p) {u w:Nat}:Conn (endsL (A2Q (A5h M))) u w↔Conn M u w:=by
 constructor
 ·refine B0B fun x y hxy=> ?_;obtain ⟨p,hp,rfl,rfl⟩:=(B8q hM).1 hxy;obtain ⟨a,b⟩:=p;rcases Int.le_total a b with h | h
  ·rw [Int.min_eq_left h,Int.max_eq_right h]; exact .inl hp
  ·rw [Int.min_eq_right h,Int.max_eq_left h]; exact .inr hp
 ·refine B0B fun x y hxy=> ?_;have:=(B8q hM (x:=min x y) (y:=max x y)).2 ⟨(x,y),hxy,rfl,rfl⟩;rcases Int.le_total x y with h | h
  ·rw [Int.min_eq_left h,Int.max_eq_right h] at this; exact .inl this
  ·rw [Int.min_eq_right h,Int.max_eq_left h] at this; exact .inr this
theorem B3t {g:G} (hc:checkG g=0) {t:List Int} (ht: ∀x,x∈t->0≤x∧x<(endsL g.es).length): ∀p,p∈pkL (endsL g.es) t->okP g.n p:=fun p hp=>by
 have h12:=(A0j.1 hc).1;have:=B1X (n:=g.n.toNat) (L:=endsL g.es) (fun p hp=>A2z hc (by omega) p hp) ht p hp;unfold okP; omega
theorem B8r {n:Int} (hn:1≤n∧n≤12) {M:List (Int×Int)} (hM: ∀p,p∈M->okP n p) (hl:M.length≤50):checkG ⟨n,A2Q (A5h M)⟩=0∧(A2Q (A5h M)).length≤M.length:=by
 have hb:=B8d hM M.length (QQ _);rw [Zw] at hb;refine ⟨A0j.2 ⟨hn,fun e he=> ?_,A2t hb.d⟩,?_⟩
 ·have he':=(A1u (A5h M)).mem_iff.1 he;have h1:=hb.m e he';have h2:=hb.r e he';unfold okE; simp only; omega
 ·rw [(A1u (A5h M)).length_eq]; exact hb.len
theorem B8s {g:G} (hc:checkG g=0) {t:List Int} (ht: ∀x,x∈t->0≤x∧x<(endsL g.es).length) (hl:t.length≤50):A52 g.n (pkL (endsL g.es) t)=(A8Z g t,0):=by
 have h12:=(A0j.1 hc).1;have hM:=B3t hc ht;have hb:=B8d hM _ (QQ _);rw [Zw] at hb;unfold A52 A8Z
 rw [if_neg (by omega),if_neg (by rw [A2X]; omega),if_neg (by
  rintro ⟨p,hp,hx⟩; exact hx (hM p hp)),if_neg (by
  rintro ⟨e,he,hx⟩;have:=hb.m e he
  rw [A2X] at this; omega)]
theorem C2B (g:G) (t:List Int) (hg:g.es.length≤40) (hc:checkG g=0) (ht: ∀x,x∈t->0≤x∧x<(endsL g.es).length) (hl:t.length≤50):ACall Tryz.prog 144 [tG g,A0n t] (tG (A8Z g t)):=by
 have hE:=B5M g hg hc;have hM:=C08 g.n (pkL (endsL g.es) t) (by rw [A2X]; omega);rw [B8s hc ht hl] at hM;have hlen:=A26 hg hc;generalize A8Z g t=W at*;obtain ⟨wn,wes⟩:=W;generalize endsL g.es=L at*;clear hc hg;obtain ⟨n,es⟩:=g;simp only at hM ⊢;refine ACall.of_body Tryz.func144 rfl (by kernel_rfl) ?_;simp only [entry,Tryz.ntmps144,tG,A0n];refine zU ?_;refine zJ (stop 3) Qw8 (zc hE Qw8) Qw8 Qw8 ?_;refine AWp.weak (Weak.opens ((fun t f=>[f,f,f,f,f,f,t,f,f,f,f,f,f,f,f,f,f,f,f,f,f,f,f,f,f,f,f,f,f,f,f,f,f,f,f,f]) true false) 2 (by first | omega | simp)) ?_;simp only [A2i,A66,List.length_cons,List.length_nil,Xw,Nat.reduceAdd,List.cons_append,List.nil_append];refine zR Qw8 Qw8 Qw8 ?_;refine AWp.loopS (α:=Nat) 36 (fun i=>[(1,.c (.slice (A0o t) .none)),(2,.c (.ptr 0 0)),(4,.c (.ptr 1 0)),(5,.c (.slice (A1b L) .none)),(6,.c (.slice (A1b (pkL L (t.take i))) (.chain 2))),(7,.c (.int .i64 (i:Int)))]) (fun i=>[.box [.int .i64 n,.slice (A0f es) .none],.box [.int .i64 0,.nils],.chain (pkL L (t.take i)).length 2]) (fun i=>i≤t.length) (fun i=>t.length-i) (0) (hk:=Weak.headL 3 36 [1,2,4,5,6,7] zW) (h0:=?_) (round:=fun i hI=>?_)
 ·exact Xj _
 ·have hi:i≤t.length:=hI;clear hI;have htl:(pkL L (t.take i)).length=i:=by rw [A2X,Wz]; omega
  by_cases hlt:i<t.length
  ·have hltI:(i:Int)<t.length:=by omega
   have e0:=Qq hlt;have e1:=A0w e0;have hsn:pkL L (t.take (i+1))=pkL L (t.take i)++[L.getD t[i].toNat (0,0)]:=by
    unfold pkL; rw [XX hlt,WY]; rfl
   have hx:=ht _ (Xv hlt);have htl2:(pkL L (t.take (i+1))).length=i+1:=by rw [A2X,Wz]; omega
   generalize t[i]=x at*;obtain ⟨z,rfl⟩:=XV hx.1;have hzl:z<L.length:=by have:=hx.2; omega
   have hzI:(z:Int)<(L.length:Int):=by omega
   have g0:=Qq hzl;have g1:=A2P g0;rw [show ((z:Nat):Int).toNat=z from rfl,Qz,g0,Option.getD_some] at hsn;have hps:A1b (pkL L (t.take i))++[[.int .i64 L[z].1,.int .i64 L[z].2]]=A1b (pkL L (t.take (i+1))):=by rw [hsn]; simp [A1b,C4B]
   generalize L[z]=p at*;obtain ⟨a,b⟩:=p;change (A0o t)[i]? =some [.int .i64 (z:Int)] at e1;simp only at hps g1;generalize hM2:pkL L (t.take (i+1))=M2 at*;generalize pkL L (t.take i)=M1 at*;refine zRc (zc @hltI (zc @e1 (zc @g1 (zc @hzI (zc @hps (zc @A05 (zc @A0e (zc @htl Qw8)))))))) Qw8 @A5R ?_;refine ⟨i+1,Weak.headF 3 36 [1,2,4,5,6,7] (zc @hM2 (zc @htl2 (zc @htl Qw8))) zW,?_,?_⟩
   ·exact hlt
   ·omega
  ·have ei:i=t.length:=by omega
   have hnl: ¬((i:Int)<(t.length:Int)):=by omega
   have eT:t.take i=t:=by rw [ei,Zw]
   rw [eT] at htl ⊢;generalize pkL L t=M at*;refine zR (zc @hnl (zc @A0e Qw8)) (zc hM Qw8) Qw8 ?_;simp [A0z,A0y,Blk.cells,ty,Tryz.results144,A0t,A0u,toT,A0d,A0b,A0c,A0a,tG]
theorem B8t {g:G} (hc:checkG g=0) {t:List Int} (ht: ∀x,x∈t->0≤x∧x<(endsL g.es).length) {u w:Nat}:Conn (endsL (A8Z g t).es) u w↔Conn (pkL (endsL g.es) t) u w:=C0K (B3t hc ht)
theorem A9N {g:G} (hc:checkG g=0) {t:List Int} (ht: ∀x,x∈t->0≤x∧x<(endsL g.es).length) (hl:t.length≤50):checkG (A8Z g t)=0∧(A8Z g t).es.length≤t.length:=by
 have h:=B8r (A0j.1 hc).1 (B3t hc ht) (by rw [A2X]; exact hl);rw [A2X] at h;exact h
theorem B5N {g:G} {n:Nat} (hc:checkG g=0) (hn:g.n=n) {t:List Int} (ht: ∀x,x∈t->0≤x∧x<(endsL g.es).length) (hl:t.length≤50):connB (A8Z g t)=decide (ncls n (Conn (pkL (endsL g.es) t))=1):=by
 rw [A3D (A9N hc ht hl).1 (n:=n) hn,A2B fun x y _ _=>B8t hc ht]
theorem C5c (g:G) (t:List Int) (hg:g.es.length≤40) (hc:checkG g=0) (ht: ∀x,x∈t->0≤x∧x<(endsL g.es).length) (hl:t.length≤40):ACall Tryz.prog 85 [tG g,A0n t] (A0v (treeB g.n.toNat (endsL g.es) t)):=by
 have h12:=(A0j.1 hc).1;have hn:g.n=(g.n.toNat:Nat):=by omega
 have hW:=C2B g t hg hc ht (by omega);have hwc:=A9N hc ht (by omega);have hC:=A6P (A8Z g t) (by omega) hwc.1;rw [B5N hc hn ht (by omega)] at hC;have eT:treeB g.n.toNat (endsL g.es) t=(decide ((t.length:Int)=g.n-1)&&decide (ncls g.n.toNat (Conn (pkL (endsL g.es) t))=1)):=by
  unfold treeB;rw [Qz1,decide_eq_true_eq,Zq,decide_eq_true_eq,decide_eq_true_eq,<-hn]
 rw [eT];generalize decide (ncls g.n.toNat (Conn (pkL (endsL g.es) t))=1)=b at*;generalize A8Z g t=W at*;clear hwc ht eT hn hc hg;obtain ⟨n,es⟩:=g;simp only at h12 ⊢;refine ACall.of_body Tryz.func85 rfl (by kernel_rfl) ?_;simp only [entry,Tryz.ntmps85,tG,A0n];refine zU ?_;by_cases h1:(t.length:Int)=n-1
 ·rw [decide_eq_true h1,Jy];refine zR (zc @A0e (zc @h1 Qw8)) (zc hW (zc hC Qw8)) Qw8 ?_;simp [A0z,A0y,Blk.cells,ty,Tryz.results85,A0t,A0u,toT,A0d,A0b,A0c,A0a,A0v]
 ·rw [decide_eq_false h1,Qq3];refine zR (zc @A0e (zc @h1 Qw8)) Qw8 Qw8 ?_;simp [A0z,A0y,Blk.cells,ty,Tryz.results85,A0t,A0u,toT,A0d,A0b,A0c,A0a,A0v]
theorem B3u (g:G) (t:List Int) (hg:g.es.length≤40) (hl:t.length<2^40):ACall Tryz.prog 152 [tG g,A0n t] (.tup [A0B (if A7r g t≠0 then [] else endsL g.es),A0m (A7r g t)]):=by
 have hJ:=B4t g hg;by_cases hj:A0s g=0
 case neg=>
  have e:A7r g t=A0s g:=by unfold A7r; rw [if_pos hj]
  rw [e];rw [if_pos hj] at hJ ⊢;generalize A0s g=E at*;obtain ⟨n,es⟩:=g;refine ACall.of_body Tryz.func152 rfl (by kernel_rfl) ?_;simp only [entry,Tryz.ntmps152,tG,A0n];refine zU ?_;refine zR (zc @hj Qw8) (zc hJ Qw8) Qw8 ?_;simp [A0z,A0y,Blk.cells,ty,Tryz.results152,A0t,A0u,toT,A0d,A0b,A0c,A0a,A0m,A0B,A1b]
 have hc:checkG g=0:=by
  unfold A0s at hj;by_cases h:checkG g=0
  ·exact h
  ·rw [if_pos h] at hj; exact absurd hj h
 have h12:=(A0j.1 hc).1;have hE:=B8p g t hg (by omega);unfold C5b at hE;rw [if_neg (by omega)] at hE;have hlen:=A26 hg hc;have eT:A7r g t=if A4h (endsL g.es).length none t≠0 then A4h (endsL g.es).length none t else if (t.length:Int)≠g.n-1 then 8 else if treeB g.n.toNat (endsL g.es) t=true then 0 else 3:=by unfold A7r; rw [if_neg (by omega)]
 rw [eT];rw [hj] at hJ;rw [if_neg (by omega)] at hJ;by_cases hs:A4h (endsL g.es).length none t=0
 case neg=>
  have e2:(if A4h (endsL g.es).length none t≠0 then A4h (endsL g.es).length none t else if (t.length:Int)≠g.n-1 then 8 else if treeB g.n.toNat (endsL g.es) t=true then 0 else 3)=A4h (endsL g.es).length none t:=if_pos hs;rw [e2,if_pos hs];generalize A4h (endsL g.es).length none t=E at*;generalize endsL g.es=L at*;clear hc eT e2;obtain ⟨n,es⟩:=g;refine ACall.of_body Tryz.func152 rfl (by kernel_rfl) ?_;simp only [entry,Tryz.ntmps152,tG,A0n];refine zU ?_;refine zR (zc @hs Qw8) (zc hJ (zc hE Qw8)) Qw8 ?_;simp [A0z,A0y,Blk.cells,ty,Tryz.results152,A0t,A0u,toT,A0d,A0b,A0c,A0a,A0m,A0B,A1b]
 have hn:g.n=(g.n.toNat:Nat):=by omega
 have hI:=C0F g.n.toNat (endsL g.es) t (by omega) (by omega) (fun p hp=>A2z hc hn p hp) (A6N hs) (by omega) hl;rw [<-hn] at hI;have e2:(if A4h (endsL g.es).length none t≠0 then A4h (endsL g.es).length none t else if (t.length:Int)≠g.n-1 then 8 else if treeB g.n.toNat (endsL g.es) t=true then 0 else 3)=if (t.length:Int)≠g.n-1 then 8 else if treeB g.n.toNat (endsL g.es) t=true then 0 else 3:=if_neg (by omega)
 rw [e2];rw [hs] at hE;generalize treeB g.n.toNat (endsL g.es) t=b at*;generalize endsL g.es=L at*;clear hc eT hs hj hg hn e2;obtain ⟨n,es⟩:=g;simp only at h12 hI ⊢;refine ACall.of_body Tryz.func152 rfl (by kernel_rfl) ?_;simp only [entry,Tryz.ntmps152,tG,A0n];refine zU ?_;by_cases h1:(t.length:Int)=n-1
 ·have h2: ¬((t.length:Int)≠n-1):=by omega
  simp only [if_neg h2];cases b with
  | true=>
   rw [show (if true=true then (0:Int) else 3)=0 from rfl,if_neg (by omega)];refine zR (zc @A0e (zc @h1 Qw8)) (zc hJ (zc hE (zc hI Qw8))) Qw8 ?_;simp [A0z,A0y,Blk.cells,ty,Tryz.results152,A0t,A0u,toT,A0d,A0b,A0c,A0a,A0m,A0B]
  | false=>
   rw [show (if false=true then (0:Int) else 3)=3 from rfl,if_pos (by omega)];refine zR (zc @A0e (zc @h1 Qw8)) (zc hJ (zc hE (zc hI Qw8))) Qw8 ?_;simp [A0z,A0y,Blk.cells,ty,Tryz.results152,A0t,A0u,toT,A0d,A0b,A0c,A0a,A0m,A0B,A1b]
 ·simp only [if_pos h1];rw [if_pos (by omega)];refine zR (zc @A0e (zc @h1 Qw8)) (zc hJ (zc hE Qw8)) Qw8 ?_;simp [A0z,A0y,Blk.cells,ty,Tryz.results152,A0t,A0u,toT,A0d,A0b,A0c,A0a,A0m,A0B,A1b]
theorem B8u (g:G) (t:List Int) (hg:g.es.length≤40) (hl:t.length<2^40):ACall Tryz.prog 98 [tG g,A0n t] (A0m (A7r g t)):=by
 have h:=B3u g t hg hl;generalize (if A7r g t≠0 then [] else endsL g.es)=L at*;generalize A7r g t=E at*;obtain ⟨n,es⟩:=g;refine ACall.of_body Tryz.func98 rfl (by kernel_rfl) ?_;simp only [entry,Tryz.ntmps98,tG,A0n];refine zU ?_;refine zR Qw8 (zc h Qw8) Qw8 ?_;simp [A0z,A0y,Blk.cells,ty,Tryz.results98,A0t,A0u,toT,A0d,A0b,A0c,A0a,A0m]
section
variable {N:Nat} {f:Nat->Nat}
end
section
variable {J:List (Int×Int)}
end
theorem A6l {R:List Bool} {i:Nat} (h:i<R.length):R[i]? =some (R.getD i false):=by
 rw [Qz,Qq h]; rfl
theorem C4d (n:Nat) (R:List Bool) (hR:R.length=n) {H:List Blk} (h5:H[5]? =some (.box (bC R))) (h6:H[6]? =some (.box [.ref 5 1 0 n n])) (u:Nat) (hu:u<n):
  ACallH Tryz.prog 186 H [.c (.int .i64 (u:Int)),.c (.ptr 6 0)] H (.c (.bool (R.getD u false))):=by
 have hg:=A6l (R:=R) (i:=u) (by omega);have hb:=A9G hg;generalize R.getD u false=b at*;have huI:(u:Int)<(n:Int):=by omega
 refine ACallH.of_body Tryz.func186 rfl (by kernel_rfl) ?_;simp only [entry,Tryz.ntmps186,List.length_cons,List.length_nil,Nat.reduceAdd,Nat.reduceSub,List.replicate_succ,List.replicate_zero,List.cons_append,List.nil_append];refine zR (zc @h6 (zc @h5 (zc @hb (zc @huI (zc @A1P (zc @hR (zc @Xk Qw8))))))) Qw8 Qw8 ?_;simp [A4y,A1S,A0t,A1R,Tryz.results186]
def B0V (w a:Nat):Nat:=w / 2^a%2
theorem C5y (w a:Nat) (ha:a≤12):((w:Int)).fdiv (2^min a 64)=((w / 2^a:Nat):Int):=by
 rw [VJ (by omega)];have e:(2:Int)^a=((2^a:Nat):Int):=by simp
 rw [e,Int.fdiv_eq_ediv_of_nonneg _ (Int.natCast_nonneg _)];rfl
theorem C5z (x:Nat) (hx:x<2^40):B4R .and .i64 (x:Int) 1=((x%2:Nat):Int):=by
 have h:(BitVec.ofInt 64 (x:Int)&&&BitVec.ofInt 64 (1:Int)).toNat=x%2:=by
  rw [BitVec.ofInt_natCast,show BitVec.ofInt 64 (1:Int)=BitVec.ofNat 64 1 from rfl,BitVec.toNat_and,BitVec.toNat_ofNat,BitVec.toNat_ofNat,Vz (show x<2^64 by omega),show 1%2^64=1 by decide,Nat.and_one_is_mod]
 show IntKind.i64.wrap (((BitVec.ofInt 64 (x:Int)&&&BitVec.ofInt 64 (1:Int)).toNat:Nat):Int)=_;rw [h];exact wrap_in ⟨by show (-9223372036854775808:Int)≤_; omega,by show _≤(9223372036854775807:Int); omega⟩
theorem C50 (n:Nat) (h:n≤12):(1:Int)*2^min n 64=((2^n:Nat):Int):=by
 rw [VJ (by omega),Int.one_mul]; simp
theorem C5d {n:Nat} (h:n≤12):2^n≤4096∧1≤2^n:=⟨Vy (by omega) h,Nat.one_le_two_pow⟩
def setN (n w:Nat):List Nat:=(List.range n).filter fun v=>decide (B0V w v=1)
theorem A4D (n w:Nat):setN (n+1) w=if B0V w n=1 then setN n w++[n] else setN n w:=by
 unfold setN;rw [Ww,VV];by_cases h:B0V w n=1<;>simp [h]
theorem A28 (n w:Nat):(setN n w).length≤n:=by unfold setN; exact Yj (Jq _ _) (by simp)
def cutW (w:Nat):List E->Int
 | []=>0
 | e::es=>(if B0V w e.a.toNat=B0V w e.b.toNat then 0 else e.m)+cutW w es
def C0L (n:Nat) (es:List E) (s:Int×List Nat) (w:Nat):Int×List Nat:=
 if w%2=0 then s else if 0≤s.1∧s.1<cutW w es then s else
  if cutW w es<s.1∨s.1<0∨A1K (zI (setN n w)) (zI s.2)<0 then (cutW w es,setN n w) else s
def connW (n:Nat) (es:List E) (k:Nat):Int×List Nat:=(List.range k).foldl (C0L n es) (-1,[])
def C5e (t:Int) (v:Nat) (d:List Int) (x:Int×Int):List Int:=(d.set v (d.getD v 0-x.2*t)).set x.1.toNat ((d.set v (d.getD v 0-x.2*t)).getD x.1.toNat 0+x.2*t)
def C5f (es:List E) (t:Int) (v:Nat) (d:List Int):List Int:=(lnkL es v).foldl (C5e t v) d
def C2C (es:List E) (t:Int) (R:List Bool):Nat->List Int->List Int
 | 0,d=>d
 | k+1,d=>if R.getD k false=true then C5f es t k (C2C es t R k d) else C2C es t R k d
def C0M (t:Int) (R:List Bool):Nat->List Int->List Int
 | 0,s=>s
 | k+1,s=>if R.getD k false=true then (C0M t R k s).set k ((C0M t R k s).getD k 0+t) else C0M t R k s
def bndL (K:Int) (d:List Int):Prop:= ∀i,-K≤d.getD i 0∧d.getD i 0≤K
theorem B8v {K K':Int} {d:List Int} (h:bndL K d) (hk:K≤K'):bndL K' d:=fun i=>by have:=h i; omega
theorem A1j {d:List Int} {i:Nat} (h:i<d.length):d[i]? =some (d.getD i 0):=by
 rw [Qz,Qq h]; rfl
end Go.Proofs.YtdbdfkohpjefjaaGreat
