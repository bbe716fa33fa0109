/- A part of the proof. -/
import Derived.Test.YtdbdfkohpjefjaaGreatPart25
import Derived.Test.YtdbdfkohpjefjaaGreatPart26
import Derived.Test.YtdbdfkohpjefjaaGreatPart27
import Derived.Test.YtdbdfkohpjefjaaGreatPart28
set_option linter.all false
set_option maxHeartbeats 4000000
set_option maxRecDepth 100000
namespace Go.Proofs.YtdbdfkohpjefjaaGreat
open Go.Sp
def C6p (g:G) (l:List Int):Int:=if checkG g≠0 then checkG g else A2h (endsL g.es).length none l
theorem B9j (g:G) (l:List Int) (hg:g.es.length≤40) (hl:l.length<2^40):ACall Tryz.prog 180 [tG g,A0m l] (A0k (C6p g l)):=by
 have hS:=C3o g (by omega);unfold C6p;by_cases hc:checkG g=0
 case neg=>
  rw [if_pos hc];rw [if_pos hc] at hS;generalize checkG g=E at*;obtain ⟨n,es⟩:=g;refine ACall.of_body Tryz.func180 rfl (by kernel_rfl) ?_;simp only [entry,Tryz.ntmps180,tG,A0m];refine zU ?_;refine zR (zc @hc Qw9) (zc hS Qw9) Qw9 ?_;simp [A0y,A0x,Blk.cells,ty,Tryz.results180,A0s,A0t,toT,A0d,A0b,A0c,A0a,A0k]
 rw [if_neg (by omega)];rw [if_neg (by omega),hc] at hS;have hlen:=A1B hg hc;generalize (endsL g.es).length=N at*;clear hc hg;obtain ⟨n,es⟩:=g;refine ACall.of_body Tryz.func180 rfl (by kernel_rfl) ?_;simp only [entry,Tryz.ntmps180,tG,A0m];refine zU ?_;refine zR (zc @A0e Qw9) (zc hS Qw9) Qw9 ?_;refine AWp.loopS (α:=Nat) 45 (fun k=>[(1,.c (.slice (A0p l) .none)),(2,.c (.ptr 0 0)),(5,.c (.int .i64 (N:Int))),(17,.c (.slice (A0p l) .none)),(18,.c (.int .i64 l.length)),(19,.c (.int .i64 (k:Int)))]) (fun k=>[.box [.int .i64 n,.slice (A0f es) .none]]) (fun k=>k≤l.length∧A2h N none l=A2h N (match k with | 0=>none | j+1=>l[j]?) (l.drop k)) (fun k=>l.length-k) (0) (hk:=Weak.headL 1 45 [1,2,5,17,18,19] zW) (h0:=?_) (round:=fun k hI=>?_)
 ·exact ⟨Xj _,rfl⟩
 ·obtain ⟨hk,hx⟩:=hI;by_cases hlt:k<l.length
  ·have hltI:(k:Int)<l.length:=by omega
   have e0:=Qq hlt;have e1:=A0u e0;rw [XV hlt,A2h] at hx;generalize hv:l[k]=v at*;by_cases v0:v<0
   ·rw [if_pos (by omega)] at hx;rw [hx];refine zR (zc @hltI (zc @e1 (zc @v0 Qw9))) Qw9 Qw9 ?_;simp [A0y,A0x,Blk.cells,ty,Tryz.results180,A0s,A0t,toT,A0d,A0b,A0c,A0a,A0k]
   by_cases v1:(N:Int)≤v
   ·rw [if_pos (by omega)] at hx;rw [hx];refine zR (zc @hltI (zc @e1 (zc @v0 (zc @v1 Qw9)))) Qw9 Qw9 ?_;simp [A0y,A0x,Blk.cells,ty,Tryz.results180,A0s,A0t,toT,A0d,A0b,A0c,A0a,A0k]
   rw [if_neg (by omega)] at hx;cases k with
   | zero=>
    simp only [reduceCtorEq,false_and,exists_false,if_false] at hx;refine zR (zc @hltI (zc @e1 (zc @v0 (zc @v1 Qw9)))) Qw9 Qw9 ?_;refine ⟨0+1,Weak.headN 1 45 [1,2,5,17,18,19] zW,?_,?_⟩
    ·exact ⟨hlt,hx.trans (by simp only [e0])⟩
    ·omega
   | succ j=>
    have e2:=Qq (show j<l.length by omega);have e3:=A0u e2;have hj1:((j+1:Nat):Int)-1=(j:Int):=by omega
    have hj2:(0:Int)<((j+1:Nat):Int):=by omega
    have hj3:(j:Int)<l.length:=by omega
    simp only [e2,Jk,exists_eq_left'] at hx;generalize hu:l[j]=u at*;by_cases hvu:v≤u
    ·rw [if_pos hvu] at hx;rw [hx];refine zR (zc @hltI (zc @e1 (zc @e3 (zc @hj1 (zc @hj2 (zc @hj3 (zc @A0e (zc @v0 (zc @v1 (zc @hvu Qw9)))))))))) Qw9 Qw9 ?_;simp [A0y,A0x,Blk.cells,ty,Tryz.results180,A0s,A0t,toT,A0d,A0b,A0c,A0a,A0k]
    ·rw [if_neg hvu] at hx;refine zR (zc @hltI (zc @e1 (zc @e3 (zc @hj1 (zc @hj2 (zc @hj3 (zc @A0e (zc @v0 (zc @v1 (zc @hvu Qw9)))))))))) Qw9 Qw9 ?_;refine ⟨j+1+1,Weak.headN 1 45 [1,2,5,17,18,19] zW,?_,?_⟩
     ·exact ⟨hlt,hx.trans (by simp only [e0])⟩
     ·omega
  ·have e:k=l.length:=by omega
   have e:A2h N none l=0:=by rw [hx,e,Vk]; rfl
   have hnl: ¬((k:Int)<l.length):=by omega
   rw [e];refine zR (zc @hnl Qw9) Qw9 Qw9 ?_;simp [A0y,A0x,Blk.cells,ty,Tryz.results180,A0s,A0t,toT,A0d,A0b,A0c,A0a,A0k]
theorem B3R (g:G) (l:List Int) (hg:g.es.length≤40) (hc:checkG g=0) (hl:l.length<2^40):ACall Tryz.prog 84 [tG g,A0m l] (A0k (A2h (endsL g.es).length none l)):=by
 have hsm:=A9y (g:=g) (by omega) hc;have hS:=A32 g hsm.s hsm.es hsm.m;have hlen:=A1B hg hc;clear hsm;generalize (endsL g.es).length=N at*;clear hc hg;obtain ⟨n,es⟩:=g;refine ACall.of_body Tryz.func84 rfl (by kernel_rfl) ?_;simp only [entry,Tryz.ntmps84,tG,A0m];refine zU ?_;refine zR Qw9 (zc hS Qw9) Qw9 ?_;refine AWp.loopS (α:=Nat) 42 (fun k=>[(1,.c (.slice (A0p l) .none)),(2,.c (.ptr 0 0)),(5,.c (.int .i64 (N:Int))),(6,.c (.int .i64 (k:Int)))]) (fun k=>[.box [.int .i64 n,.slice (A0f es) .none]]) (fun k=>k≤l.length∧A2h N none l=A2h N (match k with | 0=>none | j+1=>l[j]?) (l.drop k)) (fun k=>l.length-k) (0) (hk:=Weak.headL 1 42 [1,2,5,6] zW) (h0:=?_) (round:=fun k hI=>?_)
 ·exact ⟨Xj _,rfl⟩
 ·obtain ⟨hk,hx⟩:=hI;by_cases hlt:k<l.length
  ·have hltI:(k:Int)<l.length:=by omega
   have e0:=Qq hlt;have e1:=A0u e0;rw [XV hlt,A2h] at hx;generalize hv:l[k]=v at*;by_cases v0:v<0
   ·rw [if_pos (by omega)] at hx;rw [hx];refine zR (zc @hltI (zc @e1 (zc @A0e (zc @v0 Qw9)))) Qw9 Qw9 ?_;simp [A0y,A0x,Blk.cells,ty,Tryz.results84,A0s,A0t,toT,A0d,A0b,A0c,A0a,A0k]
   by_cases v1:(N:Int)≤v
   ·rw [if_pos (by omega)] at hx;rw [hx];refine zR (zc @hltI (zc @e1 (zc @A0e (zc @v0 (zc @v1 Qw9))))) Qw9 Qw9 ?_;simp [A0y,A0x,Blk.cells,ty,Tryz.results84,A0s,A0t,toT,A0d,A0b,A0c,A0a,A0k]
   rw [if_neg (by omega)] at hx;cases k with
   | zero=>
    simp only [reduceCtorEq,false_and,exists_false,if_false] at hx;refine zR (zc @hltI (zc @e1 (zc @A0e (zc @v0 (zc @v1 Qw9))))) Qw9 Qw9 ?_;refine ⟨0+1,Weak.headN 1 42 [1,2,5,6] zW,?_,?_⟩
    ·exact ⟨hlt,hx.trans (by simp only [e0])⟩
    ·omega
   | succ j=>
    have e2:=Qq (show j<l.length by omega);have e3:=A0u e2;have hj1:((j+1:Nat):Int)-1=(j:Int):=by omega
    have hj2:(0:Int)<((j+1:Nat):Int):=by omega
    have hj3:(j:Int)<l.length:=by omega
    simp only [e2,Jk,exists_eq_left'] at hx;generalize hu:l[j]=u at*;by_cases hvu:v≤u
    ·rw [if_pos hvu] at hx;rw [hx];refine zR (zc @hltI (zc @e1 (zc @e3 (zc @hj1 (zc @hj2 (zc @hj3 (zc @A0e (zc @v0 (zc @v1 (zc @hvu Qw9)))))))))) Qw9 Qw9 ?_;simp [A0y,A0x,Blk.cells,ty,Tryz.results84,A0s,A0t,toT,A0d,A0b,A0c,A0a,A0k]
    ·rw [if_neg hvu] at hx;refine zR (zc @hltI (zc @e1 (zc @e3 (zc @hj1 (zc @hj2 (zc @hj3 (zc @A0e (zc @v0 (zc @v1 (zc @hvu Qw9)))))))))) Qw9 Qw9 ?_;refine ⟨j+1+1,Weak.headN 1 42 [1,2,5,6] zW,?_,?_⟩
     ·exact ⟨hlt,hx.trans (by simp only [e0])⟩
     ·omega
  ·have e:k=l.length:=by omega
   have e:A2h N none l=0:=by rw [hx,e,Vk]; rfl
   have hnl: ¬((k:Int)<l.length):=by omega
   rw [e];refine zR (zc @hnl (zc @A0e Qw9)) Qw9 Qw9 ?_;simp [A0y,A0x,Blk.cells,ty,Tryz.results84,A0s,A0t,toT,A0d,A0b,A0c,A0a,A0k]
noncomputable def A9z (g:G) (t:List Int):G:=⟨g.n,A3c (A51 (pkL (endsL g.es) t))⟩
theorem B9k {n:Int} {M:List (Int×Int)} (hM: ∀p,p∈M->okP n p) {x y:Int}:(x,y)∈endsL (A3c (A51 M))↔ ∃p,p∈M∧min p.1 p.2=x∧max p.1 p.2=y:=by
 have hb:=B8P hM M.length (QQ _);have hcnt: ∀a b,A1G (A51 M) a b=(M.countP (isP a b):Int):=fun a b=>by
  have e:=C12 M a b M.length (QQ _);rwa [Zy] at e
 rw [Zy] at hb;constructor
 ·intro h;obtain ⟨e,he,hx⟩:=A3L h;have he':=(A1v (A51 M)).mem_iff.1 he;have hc:=A3j hb.d he';have hm:=hb.m e he';rw [hcnt] at hc;have hpos:0<M.countP (isP e.a e.b):=by omega
  obtain ⟨p,hp,hq⟩:=List.countP_pos_iff.1 hpos;unfold isP at hq;simp only [decide_eq_true_eq] at hq;cases hx;exact ⟨p,hp,hq.1,hq.2⟩
 ·rintro ⟨p,hp,rfl,rfl⟩;have hpos:0<M.countP (isP (min p.1 p.2) (max p.1 p.2)):=List.countP_pos_iff.2 ⟨p,hp,by unfold isP; simp⟩;have hne:A1G (A51 M) (min p.1 p.2) (max p.1 p.2)≠0:=by rw [hcnt]; omega
  have hmem:=A3k hne;have hm:=hb.m _ hmem;exact Jz.2 ⟨_,(A1v (A51 M)).mem_iff.2 hmem,Wq.2 ⟨by simp only at hm ⊢; omega,rfl⟩⟩
theorem B1a {l m:List (Int×Int)} (h: ∀x y,(x,y)∈l->(x,y)∈m∨(y,x)∈m) {u w:Nat} (hc:Conn l u w):Conn m u w:=by
 induction hc with
 | refl=>exact .refl
 | step _ hs ih=>
  rcases hs with hs | hs
  ·rcases h _ _ hs with q | q
   ·exact ih.step (.inl q)
   ·exact ih.step (.inr q)
  ·rcases h _ _ hs with q | q
   ·exact ih.step (.inr q)
   ·exact ih.step (.inl q)
theorem C1K {n:Int} {M:List (Int×Int)} (hM: ∀p,p∈M->okP n p) {u w:Nat}:Conn (endsL (A3c (A51 M))) u w↔Conn M u w:=by
 constructor
 ·refine B1a fun x y hxy=> ?_;obtain ⟨p,hp,rfl,rfl⟩:=(B9k hM).1 hxy;obtain ⟨a,b⟩:=p;rcases Int.le_total a b with h | h
  ·rw [Int.min_eq_left h,Int.max_eq_right h]; exact .inl hp
  ·rw [Int.min_eq_right h,Int.max_eq_left h]; exact .inr hp
 ·refine B1a fun x y hxy=> ?_;have:=(B9k hM (x:=min x y) (y:=max x y)).2 ⟨(x,y),hxy,rfl,rfl⟩;rcases Int.le_total x y with h | h
  ·rw [Int.min_eq_left h,Int.max_eq_right h] at this; exact .inl this
  ·rw [Int.min_eq_right h,Int.max_eq_left h] at this; exact .inr this
theorem B3S {g:G} (hc:checkG g=0) {t:List Int} (ht: ∀x,x∈t->0≤x∧x<(endsL g.es).length): ∀p,p∈pkL (endsL g.es) t->okP g.n p:=fun p hp=>by
 have h12:=(A0h.1 hc).1;have:=A9a (n:=g.n.toNat) (L:=endsL g.es) (fun p hp=>A2f hc (by omega) p hp) ht p hp;unfold okP; omega
theorem B9l {n:Int} (hn:1≤n∧n≤12) {M:List (Int×Int)} (hM: ∀p,p∈M->okP n p) (hl:M.length≤50):checkG ⟨n,A3c (A51 M)⟩=0∧(A3c (A51 M)).length≤M.length:=by
 have hb:=B8P hM M.length (QQ _);rw [Zy] at hb;refine ⟨A0h.2 ⟨hn,fun e he=> ?_,A21 hb.d⟩,?_⟩
 ·have he':=(A1v (A51 M)).mem_iff.1 he;have h1:=hb.m e he';have h2:=hb.r e he';unfold okE; simp only; omega
 ·rw [(A1v (A51 M)).length_eq]; exact hb.len
theorem B9m {g:G} (hc:checkG g=0) {t:List Int} (ht: ∀x,x∈t->0≤x∧x<(endsL g.es).length) (hl:t.length≤50):A5L g.n (pkL (endsL g.es) t)=(A9z g t,0):=by
 have h12:=(A0h.1 hc).1;have hM:=B3S hc ht;have hb:=B8P hM _ (QQ _);rw [Zy] at hb;unfold A5L A9z
 rw [if_neg (by omega),if_neg (by rw [A2r]; omega),if_neg (by
  rintro ⟨p,hp,hx⟩; exact hx (hM p hp)),if_neg (by
  rintro ⟨e,he,hx⟩;have:=hb.m e he
  rw [A2r] at this; omega)]
theorem C3K (g:G) (t:List Int) (hg:g.es.length≤40) (hc:checkG g=0) (ht: ∀x,x∈t->0≤x∧x<(endsL g.es).length) (hl:t.length≤50):ACall Tryz.prog 144 [tG g,A0m t] (tG (A9z g t)):=by
 have hE:=B0m g hg hc;have hM:=C11 g.n (pkL (endsL g.es) t) (by rw [A2r]; omega);rw [B9m hc ht hl] at hM;have hlen:=A1B hg hc;generalize A9z g t=W at*;obtain ⟨wn,wes⟩:=W;generalize endsL g.es=L at*;clear hc hg;obtain ⟨n,es⟩:=g;simp only at hM ⊢;refine ACall.of_body Tryz.func144 rfl (by kernel_rfl) ?_;simp only [entry,Tryz.ntmps144,tG,A0m];refine zU ?_;refine zJ (stop 3) Qw9 (zc hE Qw9) Qw9 Qw9 ?_;refine AWp.weak (Weak.opens ((fun t f=>[f,f,f,f,f,f,t,f,f,f,f,f,f,f,f,f,f,f,f,f,f,f,f,f,f,f,f,f,f,f,f,f,f,f,f,f]) true false) 2 (by first | omega | simp)) ?_;simp only [A27,A8q,List.length_cons,List.length_nil,Xv,Nat.reduceAdd,List.cons_append,List.nil_append];refine zR Qw9 Qw9 Qw9 ?_;refine AWp.loopS (α:=Nat) 36 (fun i=>[(1,.c (.slice (A0p t) .none)),(2,.c (.ptr 0 0)),(4,.c (.ptr 1 0)),(5,.c (.slice (A1c L) .none)),(6,.c (.slice (A1c (pkL L (t.take i))) (.chain 2))),(7,.c (.int .i64 (i:Int)))]) (fun i=>[.box [.int .i64 n,.slice (A0f es) .none],.box [.int .i64 0,.nils],.chain (pkL L (t.take i)).length 2]) (fun i=>i≤t.length) (fun i=>t.length-i) (0) (hk:=Weak.headL 3 36 [1,2,4,5,6,7] zW) (h0:=?_) (round:=fun i hI=>?_)
 ·exact Xj _
 ·have hi:i≤t.length:=hI;clear hI;have htl:(pkL L (t.take i)).length=i:=by rw [A2r,Wv]; omega
  by_cases hlt:i<t.length
  ·have hltI:(i:Int)<t.length:=by omega
   have e0:=Qq hlt;have e1:=A0u e0;have hsn:pkL L (t.take (i+1))=pkL L (t.take i)++[L.getD t[i].toNat (0,0)]:=by
    unfold pkL; rw [XX hlt,Jv]; rfl
   have hx:=ht _ (Xw hlt);have htl2:(pkL L (t.take (i+1))).length=i+1:=by rw [A2r,Wv]; omega
   generalize t[i]=x at*;obtain ⟨z,rfl⟩:=XW hx.1;have hzl:z<L.length:=by have:=hx.2; omega
   have hzI:(z:Int)<(L.length:Int):=by omega
   have g0:=Qq hzl;have g1:=A20 g0;rw [show ((z:Nat):Int).toNat=z from rfl,Qz,g0,Option.getD_some] at hsn;have hps:A1c (pkL L (t.take i))++[[.int .i64 L[z].1,.int .i64 L[z].2]]=A1c (pkL L (t.take (i+1))):=by rw [hsn]; simp [A1c,C5Q]
   generalize L[z]=p at*;obtain ⟨a,b⟩:=p;change (A0p t)[i]? =some [.int .i64 (z:Int)] at e1;simp only at hps g1;generalize hM2:pkL L (t.take (i+1))=M2 at*;generalize pkL L (t.take i)=M1 at*;refine zRc (zc @hltI (zc @e1 (zc @g1 (zc @hzI (zc @hps (zc @A02 (zc @A0e (zc @htl Qw9)))))))) Qw9 @A6k ?_;refine ⟨i+1,Weak.headF 3 36 [1,2,4,5,6,7] (zc @hM2 (zc @htl2 (zc @htl Qw9))) zW,?_,?_⟩
   ·exact hlt
   ·omega
  ·have ei:i=t.length:=by omega
   have hnl: ¬((i:Int)<(t.length:Int)):=by omega
   have eT:t.take i=t:=by rw [ei,Zy]
   rw [eT] at htl ⊢;generalize pkL L t=M at*;refine zR (zc @hnl (zc @A0e Qw9)) (zc hM Qw9) Qw9 ?_;simp [A0y,A0x,Blk.cells,ty,Tryz.results144,A0s,A0t,toT,A0d,A0b,A0c,A0a,tG]
theorem B9n {g:G} (hc:checkG g=0) {t:List Int} (ht: ∀x,x∈t->0≤x∧x<(endsL g.es).length) {u w:Nat}:Conn (endsL (A9z g t).es) u w↔Conn (pkL (endsL g.es) t) u w:=C1K (B3S hc ht)
theorem B0p {g:G} (hc:checkG g=0) {t:List Int} (ht: ∀x,x∈t->0≤x∧x<(endsL g.es).length) (hl:t.length≤50):checkG (A9z g t)=0∧(A9z g t).es.length≤t.length:=by
 have h:=B9l (A0h.1 hc).1 (B3S hc ht) (by rw [A2r]; exact hl);rw [A2r] at h;exact h
theorem B68 {g:G} {n:Nat} (hc:checkG g=0) (hn:g.n=n) {t:List Int} (ht: ∀x,x∈t->0≤x∧x<(endsL g.es).length) (hl:t.length≤50):connB (A9z g t)=decide (ncls n (Conn (pkL (endsL g.es) t))=1):=by
 rw [A2O (B0p hc ht hl).1 (n:=n) hn,A2o fun x y _ _=>B9n hc ht]
theorem C5s (g:G) (t:List Int) (hg:g.es.length≤40) (hc:checkG g=0) (ht: ∀x,x∈t->0≤x∧x<(endsL g.es).length) (hl:t.length≤40):ACall Tryz.prog 85 [tG g,A0m t] (A0z (treeB g.n.toNat (endsL g.es) t)):=by
 have h12:=(A0h.1 hc).1;have hn:g.n=(g.n.toNat:Nat):=by omega
 have hW:=C3K g t hg hc ht (by omega);have hwc:=B0p hc ht (by omega);have hC:=B0n (A9z g t) (by omega) hwc.1;rw [B68 hc hn ht (by omega)] at hC;have eT:treeB g.n.toNat (endsL g.es) t=(decide ((t.length:Int)=g.n-1)&&decide (ncls g.n.toNat (Conn (pkL (endsL g.es) t))=1)):=by
  unfold treeB;rw [Qj6,decide_eq_true_eq,XY,decide_eq_true_eq,decide_eq_true_eq,<-hn]
 rw [eT];generalize decide (ncls g.n.toNat (Conn (pkL (endsL g.es) t))=1)=b at*;generalize A9z g t=W at*;clear hwc ht eT hn hc hg;obtain ⟨n,es⟩:=g;simp only at h12 ⊢;refine ACall.of_body Tryz.func85 rfl (by kernel_rfl) ?_;simp only [entry,Tryz.ntmps85,tG,A0m];refine zU ?_;by_cases h1:(t.length:Int)=n-1
 ·rw [decide_eq_true h1,Vw];refine zR (zc @A0e (zc @h1 Qw9)) (zc hW (zc hC Qw9)) Qw9 ?_;simp [A0y,A0x,Blk.cells,ty,Tryz.results85,A0s,A0t,toT,A0d,A0b,A0c,A0a,A0z]
 ·rw [decide_eq_false h1,VW];refine zR (zc @A0e (zc @h1 Qw9)) Qw9 Qw9 ?_;simp [A0y,A0x,Blk.cells,ty,Tryz.results85,A0s,A0t,toT,A0d,A0b,A0c,A0a,A0z]
theorem B69 (g:G) (t:List Int) (hg:g.es.length≤40) (hl:t.length≤40):ACall Tryz.prog 37 [tG g,A0m t] (A0k (A2A g t)):=by
 have hJ:=A38 g hg;by_cases hj:A0r g=0
 case neg=>
  have e:A2A g t=A0r g:=by unfold A2A; rw [if_pos hj]
  rw [e];generalize A0r g=E at*;obtain ⟨n,es⟩:=g;refine ACall.of_body Tryz.func37 rfl (by kernel_rfl) ?_;simp only [entry,Tryz.ntmps37,tG,A0m];refine zU ?_;refine zR (zc @hj Qw9) (zc hJ Qw9) Qw9 ?_;simp [A0y,A0x,Blk.cells,ty,Tryz.results37,A0s,A0t,toT,A0d,A0b,A0c,A0a,A0k]
 have hc:checkG g=0:=by
  unfold A0r at hj;by_cases h:checkG g=0
  ·exact h
  ·rw [if_pos h] at hj; exact absurd hj h
 have h12:=(A0h.1 hc).1;have hE:=B3R g t hg hc (by omega);have eT:A2A g t=if A2h (endsL g.es).length none t≠0 then A2h (endsL g.es).length none t else if (t.length:Int)≠g.n-1 then 8 else if treeB g.n.toNat (endsL g.es) t=true then 0 else 3:=by unfold A2A; rw [if_neg (by omega)]
 rw [eT];rw [hj] at hJ;by_cases hs:A2h (endsL g.es).length none t=0
 case neg=>
  rw [if_pos hs];generalize A2h (endsL g.es).length none t=E at*;clear hc eT;obtain ⟨n,es⟩:=g;refine ACall.of_body Tryz.func37 rfl (by kernel_rfl) ?_;simp only [entry,Tryz.ntmps37,tG,A0m];refine zU ?_;refine zR (zc @hs Qw9) (zc hJ (zc hE Qw9)) Qw9 ?_;simp [A0y,A0x,Blk.cells,ty,Tryz.results37,A0s,A0t,toT,A0d,A0b,A0c,A0a,A0k]
 have hI:=C5s g t hg hc (A5u hs) hl;rw [if_neg (by omega)];rw [hs] at hE;generalize treeB g.n.toNat (endsL g.es) t=b at*;clear hc eT hs hj hg;obtain ⟨n,es⟩:=g;simp only at h12 ⊢;refine ACall.of_body Tryz.func37 rfl (by kernel_rfl) ?_;simp only [entry,Tryz.ntmps37,tG,A0m];refine zU ?_;by_cases h1:(t.length:Int)=n-1
 ·rw [if_neg (by omega)];cases b with
  | true=>
   rw [if_pos rfl];refine zR (zc @A0e (zc @h1 Qw9)) (zc hJ (zc hE (zc hI Qw9))) Qw9 ?_;simp [A0y,A0x,Blk.cells,ty,Tryz.results37,A0s,A0t,toT,A0d,A0b,A0c,A0a,A0k]
  | false=>
   rw [if_neg (by simp)];refine zR (zc @A0e (zc @h1 Qw9)) (zc hJ (zc hE (zc hI Qw9))) Qw9 ?_;simp [A0y,A0x,Blk.cells,ty,Tryz.results37,A0s,A0t,toT,A0d,A0b,A0c,A0a,A0k]
 ·rw [if_pos h1];refine zR (zc @A0e (zc @h1 Qw9)) (zc hJ (zc hE Qw9)) Qw9 ?_;simp [A0y,A0x,Blk.cells,ty,Tryz.results37,A0s,A0t,toT,A0d,A0b,A0c,A0a,A0k]
theorem B3T (g:G) (t:List Int) (hg:g.es.length≤40) (hl:t.length<2^40):ACall Tryz.prog 152 [tG g,A0m t] (.tup [A0C (if A2A g t≠0 then [] else endsL g.es),A0k (A2A g t)]):=by
 have hJ:=B4Z g hg;by_cases hj:A0r g=0
 case neg=>
  have e:A2A g t=A0r g:=by unfold A2A; rw [if_pos hj]
  rw [e];rw [if_pos hj] at hJ ⊢;generalize A0r g=E at*;obtain ⟨n,es⟩:=g;refine ACall.of_body Tryz.func152 rfl (by kernel_rfl) ?_;simp only [entry,Tryz.ntmps152,tG,A0m];refine zU ?_;refine zR (zc @hj Qw9) (zc hJ Qw9) Qw9 ?_;simp [A0y,A0x,Blk.cells,ty,Tryz.results152,A0s,A0t,toT,A0d,A0b,A0c,A0a,A0k,A0C,A1c]
 have hc:checkG g=0:=by
  unfold A0r at hj;by_cases h:checkG g=0
  ·exact h
  ·rw [if_pos h] at hj; exact absurd hj h
 have h12:=(A0h.1 hc).1;have hE:=B9j g t hg (by omega);unfold C6p at hE;rw [if_neg (by omega)] at hE;have hlen:=A1B hg hc;have eT:A2A g t=if A2h (endsL g.es).length none t≠0 then A2h (endsL g.es).length none t else if (t.length:Int)≠g.n-1 then 8 else if treeB g.n.toNat (endsL g.es) t=true then 0 else 3:=by unfold A2A; rw [if_neg (by omega)]
 rw [eT];rw [hj] at hJ;rw [if_neg (by omega)] at hJ;by_cases hs:A2h (endsL g.es).length none t=0
 case neg=>
  have e2:(if A2h (endsL g.es).length none t≠0 then A2h (endsL g.es).length none t else if (t.length:Int)≠g.n-1 then 8 else if treeB g.n.toNat (endsL g.es) t=true then 0 else 3)=A2h (endsL g.es).length none t:=if_pos hs;rw [e2,if_pos hs];generalize A2h (endsL g.es).length none t=E at*;generalize endsL g.es=L at*;clear hc eT e2;obtain ⟨n,es⟩:=g;refine ACall.of_body Tryz.func152 rfl (by kernel_rfl) ?_;simp only [entry,Tryz.ntmps152,tG,A0m];refine zU ?_;refine zR (zc @hs Qw9) (zc hJ (zc hE Qw9)) Qw9 ?_;simp [A0y,A0x,Blk.cells,ty,Tryz.results152,A0s,A0t,toT,A0d,A0b,A0c,A0a,A0k,A0C,A1c]
 have hn:g.n=(g.n.toNat:Nat):=by omega
 have hI:=C1D g.n.toNat (endsL g.es) t (by omega) (by omega) (fun p hp=>A2f hc hn p hp) (A5u hs) (by omega) hl;rw [<-hn] at hI;have e2:(if A2h (endsL g.es).length none t≠0 then A2h (endsL g.es).length none t else if (t.length:Int)≠g.n-1 then 8 else if treeB g.n.toNat (endsL g.es) t=true then 0 else 3)=if (t.length:Int)≠g.n-1 then 8 else if treeB g.n.toNat (endsL g.es) t=true then 0 else 3:=if_neg (by omega)
 rw [e2];rw [hs] at hE;generalize treeB g.n.toNat (endsL g.es) t=b at*;generalize endsL g.es=L at*;clear hc eT hs hj hg hn e2;obtain ⟨n,es⟩:=g;simp only at h12 hI ⊢;refine ACall.of_body Tryz.func152 rfl (by kernel_rfl) ?_;simp only [entry,Tryz.ntmps152,tG,A0m];refine zU ?_;by_cases h1:(t.length:Int)=n-1
 ·have h2: ¬((t.length:Int)≠n-1):=by omega
  simp only [if_neg h2];cases b with
  | true=>
   rw [show (if true=true then (0:Int) else 3)=0 from rfl,if_neg (by omega)];refine zR (zc @A0e (zc @h1 Qw9)) (zc hJ (zc hE (zc hI Qw9))) Qw9 ?_;simp [A0y,A0x,Blk.cells,ty,Tryz.results152,A0s,A0t,toT,A0d,A0b,A0c,A0a,A0k,A0C]
  | false=>
   rw [show (if false=true then (0:Int) else 3)=3 from rfl,if_pos (by omega)];refine zR (zc @A0e (zc @h1 Qw9)) (zc hJ (zc hE (zc hI Qw9))) Qw9 ?_;simp [A0y,A0x,Blk.cells,ty,Tryz.results152,A0s,A0t,toT,A0d,A0b,A0c,A0a,A0k,A0C,A1c]
 ·simp only [if_pos h1];rw [if_pos (by omega)];refine zR (zc @A0e (zc @h1 Qw9)) (zc hJ (zc hE Qw9)) Qw9 ?_;simp [A0y,A0x,Blk.cells,ty,Tryz.results152,A0s,A0t,toT,A0d,A0b,A0c,A0a,A0k,A0C,A1c]
theorem B9o (g:G) (t:List Int) (hg:g.es.length≤40) (hl:t.length<2^40):ACall Tryz.prog 98 [tG g,A0m t] (A0k (A2A g t)):=by
 have h:=B3T g t hg hl;generalize (if A2A g t≠0 then [] else endsL g.es)=L at*;generalize A2A g t=E at*;obtain ⟨n,es⟩:=g;refine ACall.of_body Tryz.func98 rfl (by kernel_rfl) ?_;simp only [entry,Tryz.ntmps98,tG,A0m];refine zU ?_;refine zR Qw9 (zc h Qw9) Qw9 ?_;simp [A0y,A0x,Blk.cells,ty,Tryz.results98,A0s,A0t,toT,A0d,A0b,A0c,A0a,A0k]
section
variable {N:Nat} {f:Nat->Nat}
end
section
variable {J:List (Int×Int)}
end
theorem A64 {R:List Bool} {i:Nat} (h:i<R.length):R[i]? =some (R.getD i false):=by
 rw [Qz,Qq h]; rfl
def B2s (w a:Nat):Nat:=w / 2^a%2
theorem C6B (w a:Nat) (ha:a≤12):((w:Int)).fdiv (2^min a 64)=((w / 2^a:Nat):Int):=by
 rw [Qq1 (by omega)];have e:(2:Int)^a=((2^a:Nat):Int):=by simp
 rw [e,Int.fdiv_eq_ediv_of_nonneg _ (Int.natCast_nonneg _)];rfl
theorem C6C (x:Nat) (hx:x<2^40):B5B .and .i64 (x:Int) 1=((x%2:Nat):Int):=by
 have h:(BitVec.ofInt 64 (x:Int)&&&BitVec.ofInt 64 (1:Int)).toNat=x%2:=by
  rw [BitVec.ofInt_natCast,show BitVec.ofInt 64 (1:Int)=BitVec.ofNat 64 1 from rfl,BitVec.toNat_and,BitVec.toNat_ofNat,BitVec.toNat_ofNat,Vx (show x<2^64 by omega),show 1%2^64=1 by decide,Nat.and_one_is_mod]
 show IntKind.i64.wrap (((BitVec.ofInt 64 (x:Int)&&&BitVec.ofInt 64 (1:Int)).toNat:Nat):Int)=_;rw [h];exact wrap_in ⟨by show (-9223372036854775808:Int)≤_; omega,by show _≤(9223372036854775807:Int); omega⟩
theorem C6D (n:Nat) (h:n≤12):(1:Int)*2^min n 64=((2^n:Nat):Int):=by
 rw [Qq1 (by omega),Int.one_mul]; simp
theorem C6q {n:Nat} (h:n≤12):2^n≤4096∧1≤2^n:=⟨Qz5 (by omega) h,Nat.one_le_two_pow⟩
def setN (n w:Nat):List Nat:=(List.range n).filter fun v=>decide (B2s w v=1)
theorem A65 (n w:Nat):setN (n+1) w=if B2s w n=1 then setN n w++[n] else setN n w:=by
 unfold setN;rw [Jq,JJ];by_cases h:B2s w n=1<;>simp [h]
theorem A5v (n w:Nat):(setN n w).length≤n:=by unfold setN; exact Yk (Jy _ _) (by simp)
def cutW (w:Nat):List E->Int
 | []=>0
 | e::es=>(if B2s w e.a.toNat=B2s w e.b.toNat then 0 else e.m)+cutW w es
def C1L (n:Nat) (es:List E) (s:Int×List Nat) (w:Nat):Int×List Nat:=
 if w%2=0 then s else if 0≤s.1∧s.1<cutW w es then s else
  if cutW w es<s.1∨s.1<0∨A1Q (zI (setN n w)) (zI s.2)<0 then (cutW w es,setN n w) else s
def connW (n:Nat) (es:List E) (k:Nat):Int×List Nat:=(List.range k).foldl (C1L n es) (-1,[])
theorem C5t (n:Nat) (R:List Bool) (hR:R.length=n) {H:List Blk} (h5:H[5]? =some (.box (bC R))) (h6:H[6]? =some (.box [.ref 5 1 0 n n])) (u:Nat) (hu:u<n):
  ACallH Tryz.prog 186 H [.c (.int .i64 (u:Int)),.c (.ptr 6 0)] H (.c (.bool (R.getD u false))):=by
 have hg:=A64 (R:=R) (i:=u) (by omega);have hb:=B0c hg;generalize R.getD u false=b at*;have huI:(u:Int)<(n:Int):=by omega
 refine ACallH.of_body Tryz.func186 rfl (by kernel_rfl) ?_;simp only [entry,Tryz.ntmps186,List.length_cons,List.length_nil,Nat.reduceAdd,Nat.reduceSub,List.replicate_succ,List.replicate_zero,List.cons_append,List.nil_append];refine zR (zc @h6 (zc @h5 (zc @hb (zc @huI (zc @A1U (zc @hR (zc @Xy Qw9))))))) Qw9 Qw9 ?_;simp [A4D,A1Y,A0s,A1X,Tryz.results186]
def C6r (t:Int) (v:Nat) (d:List Int) (x:Int×Int):List Int:=(d.set v (d.getD v 0-x.2*t)).set x.1.toNat ((d.set v (d.getD v 0-x.2*t)).getD x.1.toNat 0+x.2*t)
def C6s (es:List E) (t:Int) (v:Nat) (d:List Int):List Int:=(lnkL es v).foldl (C6r t v) d
def C3L (es:List E) (t:Int) (R:List Bool):Nat->List Int->List Int
 | 0,d=>d
 | k+1,d=>if R.getD k false=true then C6s es t k (C3L es t R k d) else C3L es t R k d
def C1M (t:Int) (R:List Bool):Nat->List Int->List Int
 | 0,s=>s
 | k+1,s=>if R.getD k false=true then (C1M t R k s).set k ((C1M t R k s).getD k 0+t) else C1M t R k s
def bndL (K:Int) (d:List Int):Prop:= ∀i,-K≤d.getD i 0∧d.getD i 0≤K
theorem A1t {d:List Int} {i:Nat} (h:i<d.length):d[i]? =some (d.getD i 0):=by
 rw [Qz,Qq h]; rfl
end Go.Proofs.YtdbdfkohpjefjaaGreat
