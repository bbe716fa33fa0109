/- A part of the proof. -/
import Derived.Test.YtdbdfkohpjefjaaGreatPart21
import Derived.Test.YtdbdfkohpjefjaaGreatPart22
import Derived.Test.YtdbdfkohpjefjaaGreatPart23
set_option linter.all false
set_option maxHeartbeats 4000000
set_option maxRecDepth 100000
namespace Go.Proofs.YtdbdfkohpjefjaaGreat
open Go.Sp
def C49 (g:G) (l:List Int):Int:=if checkG g≠0 then checkG g else A2X (endsL g.es).length none l
theorem B8g (g:G) (l:List Int) (hg:g.es.length≤40) (hl:l.length<2^40):ACall Tryz.prog 180 [tG g,A0m l] (A0k (C49 g l)):=by
 have hS:=C1J g (by omega);unfold C49;by_cases hc:checkG g=0
 case neg=>
  rw [if_pos hc];rw [if_pos hc] at hS;generalize checkG g=E at*;obtain ⟨n,es⟩:=g;refine ACall.of_body Tryz.func180 rfl (by kernel_rfl) ?_;simp only [entry,Tryz.ntmps180,tG,A0m];refine zU ?_;refine zR (zc @hc Qw6) (zc hS Qw6) Qw6 ?_;simp [A0y,A0x,Blk.cells,ty,Tryz.results180,A0s,A0u,toT,A0e,A0b,A0c,A0a,A0k]
 rw [if_neg (by omega)];rw [if_neg (by omega),hc] at hS;have hlen:=A1t hg hc;generalize (endsL g.es).length=N at*;clear hc hg;obtain ⟨n,es⟩:=g;refine ACall.of_body Tryz.func180 rfl (by kernel_rfl) ?_;simp only [entry,Tryz.ntmps180,tG,A0m];refine zU ?_;refine zR (zc @A0d Qw6) (zc hS Qw6) Qw6 ?_;refine AWp.loopS (α:=Nat) 45 (fun k=>[(1,.c (.slice (A0o l) .none)),(2,.c (.ptr 0 0)),(5,.c (.int .i64 (N:Int))),(17,.c (.slice (A0o l) .none)),(18,.c (.int .i64 l.length)),(19,.c (.int .i64 (k:Int)))]) (fun k=>[.box [.int .i64 n,.slice (A0f es) .none]]) (fun k=>k≤l.length∧A2X N none l=A2X N (match k with | 0=>none | j+1=>l[j]?) (l.drop k)) (fun k=>l.length-k) (0) (hk:=A0r.headL 1 45 [1,2,5,17,18,19] zW) (h0:=?_) (round:=fun k hI=>?_)
 ·exact ⟨Xj _,rfl⟩
 ·obtain ⟨hk,hx⟩:=hI;by_cases hlt:k<l.length
  ·have hltI:(k:Int)<l.length:=by omega
   have e0:=Qq hlt;have e1:=A0t e0;rw [Zq hlt,A2X] at hx;generalize hv:l[k]=v at*;by_cases v0:v<0
   ·rw [if_pos (by omega)] at hx;rw [hx];refine zR (zc @hltI (zc @e1 (zc @v0 Qw6))) Qw6 Qw6 ?_;simp [A0y,A0x,Blk.cells,ty,Tryz.results180,A0s,A0u,toT,A0e,A0b,A0c,A0a,A0k]
   by_cases v1:(N:Int)≤v
   ·rw [if_pos (by omega)] at hx;rw [hx];refine zR (zc @hltI (zc @e1 (zc @v0 (zc @v1 Qw6)))) Qw6 Qw6 ?_;simp [A0y,A0x,Blk.cells,ty,Tryz.results180,A0s,A0u,toT,A0e,A0b,A0c,A0a,A0k]
   rw [if_neg (by omega)] at hx;cases k with
   | zero=>
    simp only [reduceCtorEq,false_and,exists_false,if_false] at hx;refine zR (zc @hltI (zc @e1 (zc @v0 (zc @v1 Qw6)))) Qw6 Qw6 ?_;refine ⟨0+1,A0r.headN 1 45 [1,2,5,17,18,19] zW,?_,?_⟩
    ·exact ⟨hlt,hx.trans (by simp only [e0])⟩
    ·omega
   | succ j=>
    have e2:=Qq (show j<l.length by omega);have e3:=A0t e2;have hj1:((j+1:Nat):Int)-1=(j:Int):=by omega
    have hj2:(0:Int)<((j+1:Nat):Int):=by omega
    have hj3:(j:Int)<l.length:=by omega
    simp only [e2,Jz,exists_eq_left'] at hx;generalize hu:l[j]=u at*;by_cases hvu:v≤u
    ·rw [if_pos hvu] at hx;rw [hx];refine zR (zc @hltI (zc @e1 (zc @e3 (zc @hj1 (zc @hj2 (zc @hj3 (zc @A0d (zc @v0 (zc @v1 (zc @hvu Qw6)))))))))) Qw6 Qw6 ?_;simp [A0y,A0x,Blk.cells,ty,Tryz.results180,A0s,A0u,toT,A0e,A0b,A0c,A0a,A0k]
    ·rw [if_neg hvu] at hx;refine zR (zc @hltI (zc @e1 (zc @e3 (zc @hj1 (zc @hj2 (zc @hj3 (zc @A0d (zc @v0 (zc @v1 (zc @hvu Qw6)))))))))) Qw6 Qw6 ?_;refine ⟨j+1+1,A0r.headN 1 45 [1,2,5,17,18,19] zW,?_,?_⟩
     ·exact ⟨hlt,hx.trans (by simp only [e0])⟩
     ·omega
  ·have e:k=l.length:=by omega
   have e:A2X N none l=0:=by rw [hx,e,Vk]; rfl
   have hnl: ¬((k:Int)<l.length):=by omega
   rw [e];refine zR (zc @hnl Qw6) Qw6 Qw6 ?_;simp [A0y,A0x,Blk.cells,ty,Tryz.results180,A0s,A0u,toT,A0e,A0b,A0c,A0a,A0k]
theorem B3q (g:G) (l:List Int) (hg:g.es.length≤40) (hc:checkG g=0) (hl:l.length<2^40):ACall Tryz.prog 84 [tG g,A0m l] (A0k (A2X (endsL g.es).length none l)):=by
 have hsm:=B5i (g:=g) (by omega) hc;have hS:=A72 g hsm.s hsm.es hsm.m;have hlen:=A1t hg hc;clear hsm;generalize (endsL g.es).length=N at*;clear hc hg;obtain ⟨n,es⟩:=g;refine ACall.of_body Tryz.func84 rfl (by kernel_rfl) ?_;simp only [entry,Tryz.ntmps84,tG,A0m];refine zU ?_;refine zR Qw6 (zc hS Qw6) Qw6 ?_;refine AWp.loopS (α:=Nat) 42 (fun k=>[(1,.c (.slice (A0o l) .none)),(2,.c (.ptr 0 0)),(5,.c (.int .i64 (N:Int))),(6,.c (.int .i64 (k:Int)))]) (fun k=>[.box [.int .i64 n,.slice (A0f es) .none]]) (fun k=>k≤l.length∧A2X N none l=A2X N (match k with | 0=>none | j+1=>l[j]?) (l.drop k)) (fun k=>l.length-k) (0) (hk:=A0r.headL 1 42 [1,2,5,6] zW) (h0:=?_) (round:=fun k hI=>?_)
 ·exact ⟨Xj _,rfl⟩
 ·obtain ⟨hk,hx⟩:=hI;by_cases hlt:k<l.length
  ·have hltI:(k:Int)<l.length:=by omega
   have e0:=Qq hlt;have e1:=A0t e0;rw [Zq hlt,A2X] at hx;generalize hv:l[k]=v at*;by_cases v0:v<0
   ·rw [if_pos (by omega)] at hx;rw [hx];refine zR (zc @hltI (zc @e1 (zc @A0d (zc @v0 Qw6)))) Qw6 Qw6 ?_;simp [A0y,A0x,Blk.cells,ty,Tryz.results84,A0s,A0u,toT,A0e,A0b,A0c,A0a,A0k]
   by_cases v1:(N:Int)≤v
   ·rw [if_pos (by omega)] at hx;rw [hx];refine zR (zc @hltI (zc @e1 (zc @A0d (zc @v0 (zc @v1 Qw6))))) Qw6 Qw6 ?_;simp [A0y,A0x,Blk.cells,ty,Tryz.results84,A0s,A0u,toT,A0e,A0b,A0c,A0a,A0k]
   rw [if_neg (by omega)] at hx;cases k with
   | zero=>
    simp only [reduceCtorEq,false_and,exists_false,if_false] at hx;refine zR (zc @hltI (zc @e1 (zc @A0d (zc @v0 (zc @v1 Qw6))))) Qw6 Qw6 ?_;refine ⟨0+1,A0r.headN 1 42 [1,2,5,6] zW,?_,?_⟩
    ·exact ⟨hlt,hx.trans (by simp only [e0])⟩
    ·omega
   | succ j=>
    have e2:=Qq (show j<l.length by omega);have e3:=A0t e2;have hj1:((j+1:Nat):Int)-1=(j:Int):=by omega
    have hj2:(0:Int)<((j+1:Nat):Int):=by omega
    have hj3:(j:Int)<l.length:=by omega
    simp only [e2,Jz,exists_eq_left'] at hx;generalize hu:l[j]=u at*;by_cases hvu:v≤u
    ·rw [if_pos hvu] at hx;rw [hx];refine zR (zc @hltI (zc @e1 (zc @e3 (zc @hj1 (zc @hj2 (zc @hj3 (zc @A0d (zc @v0 (zc @v1 (zc @hvu Qw6)))))))))) Qw6 Qw6 ?_;simp [A0y,A0x,Blk.cells,ty,Tryz.results84,A0s,A0u,toT,A0e,A0b,A0c,A0a,A0k]
    ·rw [if_neg hvu] at hx;refine zR (zc @hltI (zc @e1 (zc @e3 (zc @hj1 (zc @hj2 (zc @hj3 (zc @A0d (zc @v0 (zc @v1 (zc @hvu Qw6)))))))))) Qw6 Qw6 ?_;refine ⟨j+1+1,A0r.headN 1 42 [1,2,5,6] zW,?_,?_⟩
     ·exact ⟨hlt,hx.trans (by simp only [e0])⟩
     ·omega
  ·have e:k=l.length:=by omega
   have e:A2X N none l=0:=by rw [hx,e,Vk]; rfl
   have hnl: ¬((k:Int)<l.length):=by omega
   rw [e];refine zR (zc @hnl (zc @A0d Qw6)) Qw6 Qw6 ?_;simp [A0y,A0x,Blk.cells,ty,Tryz.results84,A0s,A0u,toT,A0e,A0b,A0c,A0a,A0k]
noncomputable def A9b (g:G) (t:List Int):G:=⟨g.n,A2K (A5b (pkL (endsL g.es) t))⟩
theorem B8h {n:Int} {M:List (Int×Int)} (hM: ∀p,p∈M->okP n p) {x y:Int}:(x,y)∈endsL (A2K (A5b M))↔ ∃p,p∈M∧min p.1 p.2=x∧max p.1 p.2=y:=by
 have hb:=B7X hM M.length (QQ _);have hcnt: ∀a b,A1E (A5b M) a b=(M.countP (isP a b):Int):=fun a b=>by
  have e:=C0x M a b M.length (QQ _);rwa [Zk] at e
 rw [Zk] at hb;constructor
 ·intro h;obtain ⟨e,he,hx⟩:=A31 h;have he':=(A1v (A5b M)).mem_iff.1 he;have hc:=A2Q hb.d he';have hm:=hb.m e he';rw [hcnt] at hc;have hpos:0<M.countP (isP e.a e.b):=by omega
  obtain ⟨p,hp,hq⟩:=List.countP_pos_iff.1 hpos;unfold isP at hq;simp only [decide_eq_true_eq] at hq;cases hx;exact ⟨p,hp,hq.1,hq.2⟩
 ·rintro ⟨p,hp,rfl,rfl⟩;have hpos:0<M.countP (isP (min p.1 p.2) (max p.1 p.2)):=List.countP_pos_iff.2 ⟨p,hp,by unfold isP; simp⟩;have hne:A1E (A5b M) (min p.1 p.2) (max p.1 p.2)≠0:=by rw [hcnt]; omega
  have hmem:=A2R hne;have hm:=hb.m _ hmem;exact Vw.2 ⟨_,(A1v (A5b M)).mem_iff.2 hmem,WJ.2 ⟨by simp only at hm ⊢; omega,rfl⟩⟩
theorem B07 {l m:List (Int×Int)} (h: ∀x y,(x,y)∈l->(x,y)∈m∨(y,x)∈m) {u w:Nat} (hc:Conn l u w):Conn m u w:=by
 induction hc with
 | refl=>exact .refl
 | step _ hs ih=>
  rcases hs with hs | hs
  ·rcases h _ _ hs with q | q
   ·exact ih.step (.inl q)
   ·exact ih.step (.inr q)
  ·rcases h _ _ hs with q | q
   ·exact ih.step (.inr q)
   ·exact ih.step (.inl q)
theorem C06 {n:Int} {M:List (Int×Int)} (hM: ∀p,p∈M->okP n p) {u w:Nat}:Conn (endsL (A2K (A5b M))) u w↔Conn M u w:=by
 constructor
 ·refine B07 fun x y hxy=> ?_;obtain ⟨p,hp,rfl,rfl⟩:=(B8h hM).1 hxy;obtain ⟨a,b⟩:=p;rcases Int.le_total a b with h | h
  ·rw [Int.min_eq_left h,Int.max_eq_right h]; exact .inl hp
  ·rw [Int.min_eq_right h,Int.max_eq_left h]; exact .inr hp
 ·refine B07 fun x y hxy=> ?_;have:=(B8h hM (x:=min x y) (y:=max x y)).2 ⟨(x,y),hxy,rfl,rfl⟩;rcases Int.le_total x y with h | h
  ·rw [Int.min_eq_left h,Int.max_eq_right h] at this; exact .inl this
  ·rw [Int.min_eq_right h,Int.max_eq_left h] at this; exact .inr this
theorem B3r {g:G} (hc:checkG g=0) {t:List Int} (ht: ∀x,x∈t->0≤x∧x<(endsL g.es).length): ∀p,p∈pkL (endsL g.es) t->okP g.n p:=fun p hp=>by
 have h12:=(A0j.1 hc).1;have:=B1Q (n:=g.n.toNat) (L:=endsL g.es) (fun p hp=>A51 hc (by omega) p hp) ht p hp;unfold okP; omega
theorem B8i {n:Int} (hn:1≤n∧n≤12) {M:List (Int×Int)} (hM: ∀p,p∈M->okP n p) (hl:M.length≤50):checkG ⟨n,A2K (A5b M)⟩=0∧(A2K (A5b M)).length≤M.length:=by
 have hb:=B7X hM M.length (QQ _);rw [Zk] at hb;refine ⟨A0j.2 ⟨hn,fun e he=> ?_,A2p hb.d⟩,?_⟩
 ·have he':=(A1v (A5b M)).mem_iff.1 he;have h1:=hb.m e he';have h2:=hb.r e he';unfold okE; simp only; omega
 ·rw [(A1v (A5b M)).length_eq]; exact hb.len
theorem B8j {g:G} (hc:checkG g=0) {t:List Int} (ht: ∀x,x∈t->0≤x∧x<(endsL g.es).length) (hl:t.length≤50):A5x g.n (pkL (endsL g.es) t)=(A9b g t,0):=by
 have h12:=(A0j.1 hc).1;have hM:=B3r hc ht;have hb:=B7X hM _ (QQ _);rw [Zk] at hb;unfold A5x A9b
 rw [if_neg (by omega),if_neg (by rw [A2S]; omega),if_neg (by
  rintro ⟨p,hp,hx⟩; exact hx (hM p hp)),if_neg (by
  rintro ⟨e,he,hx⟩;have:=hb.m e he
  rw [A2S] at this; omega)]
theorem C2p (g:G) (t:List Int) (hg:g.es.length≤40) (hc:checkG g=0) (ht: ∀x,x∈t->0≤x∧x<(endsL g.es).length) (hl:t.length≤50):ACall Tryz.prog 144 [tG g,A0m t] (tG (A9b g t)):=by
 have hE:=A9L g hg hc;have hM:=C0w g.n (pkL (endsL g.es) t) (by rw [A2S]; omega);rw [B8j hc ht hl] at hM;have hlen:=A1t hg hc;generalize A9b g t=W at*;obtain ⟨wn,wes⟩:=W;generalize endsL g.es=L at*;clear hc hg;obtain ⟨n,es⟩:=g;simp only at hM ⊢;refine ACall.of_body Tryz.func144 rfl (by kernel_rfl) ?_;simp only [entry,Tryz.ntmps144,tG,A0m];refine zU ?_;refine zJ (stop 3) Qw6 (zc hE Qw6) Qw6 Qw6 ?_;refine AWp.weak (A0r.opens ((fun t f=>[f,f,f,f,f,f,t,f,f,f,f,f,f,f,f,f,f,f,f,f,f,f,f,f,f,f,f,f,f,f,f,f,f,f,f,f]) true false) 2 (by first | omega | simp)) ?_;simp only [A2J,B0l,List.length_cons,List.length_nil,Xv,Nat.reduceAdd,List.cons_append,List.nil_append];refine zR Qw6 Qw6 Qw6 ?_;refine AWp.loopS (α:=Nat) 36 (fun i=>[(1,.c (.slice (A0o t) .none)),(2,.c (.ptr 0 0)),(4,.c (.ptr 1 0)),(5,.c (.slice (A1b L) .none)),(6,.c (.slice (A1b (pkL L (t.take i))) (.chain 2))),(7,.c (.int .i64 (i:Int)))]) (fun i=>[.box [.int .i64 n,.slice (A0f es) .none],.box [.int .i64 0,.nils],.chain (pkL L (t.take i)).length 2]) (fun i=>i≤t.length) (fun i=>t.length-i) (0) (hk:=A0r.headL 3 36 [1,2,4,5,6,7] zW) (h0:=?_) (round:=fun i hI=>?_)
 ·exact Xj _
 ·have hi:i≤t.length:=hI;clear hI;have htl:(pkL L (t.take i)).length=i:=by rw [A2S,WX]; omega
  by_cases hlt:i<t.length
  ·have hltI:(i:Int)<t.length:=by omega
   have e0:=Qq hlt;have e1:=A0t e0;have hsn:pkL L (t.take (i+1))=pkL L (t.take i)++[L.getD t[i].toNat (0,0)]:=by
    unfold pkL; rw [XQ hlt,WW]; rfl
   have hx:=ht _ (Xw hlt);have htl2:(pkL L (t.take (i+1))).length=i+1:=by rw [A2S,WX]; omega
   generalize t[i]=x at*;obtain ⟨z,rfl⟩:=XX hx.1;have hzl:z<L.length:=by have:=hx.2; omega
   have hzI:(z:Int)<(L.length:Int):=by omega
   have g0:=Qq hzl;have g1:=A2o g0;rw [show ((z:Nat):Int).toNat=z from rfl,Qz,g0,Option.getD_some] at hsn;have hps:A1b (pkL L (t.take i))++[[.int .i64 L[z].1,.int .i64 L[z].2]]=A1b (pkL L (t.take (i+1))):=by rw [hsn]; simp [A1b,C4j]
   generalize L[z]=p at*;obtain ⟨a,b⟩:=p;change (A0o t)[i]? =some [.int .i64 (z:Int)] at e1;simp only at hps g1;generalize hM2:pkL L (t.take (i+1))=M2 at*;generalize pkL L (t.take i)=M1 at*;refine zRc (zc @hltI (zc @e1 (zc @g1 (zc @hzI (zc @hps (zc @A02 (zc @A0d (zc @htl Qw6)))))))) Qw6 @A5O ?_;refine ⟨i+1,A0r.headF 3 36 [1,2,4,5,6,7] (zc @hM2 (zc @htl2 (zc @htl Qw6))) zW,?_,?_⟩
   ·exact hlt
   ·omega
  ·have ei:i=t.length:=by omega
   have hnl: ¬((i:Int)<(t.length:Int)):=by omega
   have eT:t.take i=t:=by rw [ei,Zk]
   rw [eT] at htl ⊢;generalize pkL L t=M at*;refine zR (zc @hnl (zc @A0d Qw6)) (zc hM Qw6) Qw6 ?_;simp [A0y,A0x,Blk.cells,ty,Tryz.results144,A0s,A0u,toT,A0e,A0b,A0c,A0a,tG]
theorem B8k {g:G} (hc:checkG g=0) {t:List Int} (ht: ∀x,x∈t->0≤x∧x<(endsL g.es).length) {u w:Nat}:Conn (endsL (A9b g t).es) u w↔Conn (pkL (endsL g.es) t) u w:=C06 (B3r hc ht)
theorem A9O {g:G} (hc:checkG g=0) {t:List Int} (ht: ∀x,x∈t->0≤x∧x<(endsL g.es).length) (hl:t.length≤50):checkG (A9b g t)=0∧(A9b g t).es.length≤t.length:=by
 have h:=B8i (A0j.1 hc).1 (B3r hc ht) (by rw [A2S]; exact hl);rw [A2S] at h;exact h
theorem B5F {g:G} {n:Nat} (hc:checkG g=0) (hn:g.n=n) {t:List Int} (ht: ∀x,x∈t->0≤x∧x<(endsL g.es).length) (hl:t.length≤50):connB (A9b g t)=decide (ncls n (Conn (pkL (endsL g.es) t))=1):=by
 rw [A37 (A9O hc ht hl).1 (n:=n) hn,A25 fun x y _ _=>B8k hc ht]
theorem C4A (g:G) (t:List Int) (hg:g.es.length≤40) (hc:checkG g=0) (ht: ∀x,x∈t->0≤x∧x<(endsL g.es).length) (hl:t.length≤40):ACall Tryz.prog 85 [tG g,A0m t] (A01 (treeB g.n.toNat (endsL g.es) t)):=by
 have h12:=(A0j.1 hc).1;have hn:g.n=(g.n.toNat:Nat):=by omega
 have hW:=C2p g t hg hc ht (by omega);have hwc:=A9O hc ht (by omega);have hC:=A9N (A9b g t) (by omega) hwc.1;rw [B5F hc hn ht (by omega)] at hC;have eT:treeB g.n.toNat (endsL g.es) t=(decide ((t.length:Int)=g.n-1)&&decide (ncls g.n.toNat (Conn (pkL (endsL g.es) t))=1)):=by
  unfold treeB;rw [Qj1,decide_eq_true_eq,Zj,decide_eq_true_eq,decide_eq_true_eq,<-hn]
 rw [eT];generalize decide (ncls g.n.toNat (Conn (pkL (endsL g.es) t))=1)=b at*;generalize A9b g t=W at*;clear hwc ht eT hn hc hg;obtain ⟨n,es⟩:=g;simp only at h12 ⊢;refine ACall.of_body Tryz.func85 rfl (by kernel_rfl) ?_;simp only [entry,Tryz.ntmps85,tG,A0m];refine zU ?_;by_cases h1:(t.length:Int)=n-1
 ·rw [decide_eq_true h1,VV];refine zR (zc @A0d (zc @h1 Qw6)) (zc hW (zc hC Qw6)) Qw6 ?_;simp [A0y,A0x,Blk.cells,ty,Tryz.results85,A0s,A0u,toT,A0e,A0b,A0c,A0a,A01]
 ·rw [decide_eq_false h1,Qz2];refine zR (zc @A0d (zc @h1 Qw6)) Qw6 Qw6 ?_;simp [A0y,A0x,Blk.cells,ty,Tryz.results85,A0s,A0u,toT,A0e,A0b,A0c,A0a,A01]
theorem B5G (g:G) (t:List Int) (hg:g.es.length≤40) (hl:t.length≤40):ACall Tryz.prog 37 [tG g,A0m t] (A0k (A46 g t)):=by
 have hJ:=A7i g hg;by_cases hj:A0w g=0
 case neg=>
  have e:A46 g t=A0w g:=by unfold A46; rw [if_pos hj]
  rw [e];generalize A0w g=E at*;obtain ⟨n,es⟩:=g;refine ACall.of_body Tryz.func37 rfl (by kernel_rfl) ?_;simp only [entry,Tryz.ntmps37,tG,A0m];refine zU ?_;refine zR (zc @hj Qw6) (zc hJ Qw6) Qw6 ?_;simp [A0y,A0x,Blk.cells,ty,Tryz.results37,A0s,A0u,toT,A0e,A0b,A0c,A0a,A0k]
 have hc:checkG g=0:=by
  unfold A0w at hj;by_cases h:checkG g=0
  ·exact h
  ·rw [if_pos h] at hj; exact absurd hj h
 have h12:=(A0j.1 hc).1;have hE:=B3q g t hg hc (by omega);have eT:A46 g t=if A2X (endsL g.es).length none t≠0 then A2X (endsL g.es).length none t else if (t.length:Int)≠g.n-1 then 8 else if treeB g.n.toNat (endsL g.es) t=true then 0 else 3:=by unfold A46; rw [if_neg (by omega)]
 rw [eT];rw [hj] at hJ;by_cases hs:A2X (endsL g.es).length none t=0
 case neg=>
  rw [if_pos hs];generalize A2X (endsL g.es).length none t=E at*;clear hc eT;obtain ⟨n,es⟩:=g;refine ACall.of_body Tryz.func37 rfl (by kernel_rfl) ?_;simp only [entry,Tryz.ntmps37,tG,A0m];refine zU ?_;refine zR (zc @hs Qw6) (zc hJ (zc hE Qw6)) Qw6 ?_;simp [A0y,A0x,Blk.cells,ty,Tryz.results37,A0s,A0u,toT,A0e,A0b,A0c,A0a,A0k]
 have hI:=C4A g t hg hc (A4V hs) hl;rw [if_neg (by omega)];rw [hs] at hE;generalize treeB g.n.toNat (endsL g.es) t=b at*;clear hc eT hs hj hg;obtain ⟨n,es⟩:=g;simp only at h12 ⊢;refine ACall.of_body Tryz.func37 rfl (by kernel_rfl) ?_;simp only [entry,Tryz.ntmps37,tG,A0m];refine zU ?_;by_cases h1:(t.length:Int)=n-1
 ·rw [if_neg (by omega)];cases b with
  | true=>
   rw [if_pos rfl];refine zR (zc @A0d (zc @h1 Qw6)) (zc hJ (zc hE (zc hI Qw6))) Qw6 ?_;simp [A0y,A0x,Blk.cells,ty,Tryz.results37,A0s,A0u,toT,A0e,A0b,A0c,A0a,A0k]
  | false=>
   rw [if_neg (by simp)];refine zR (zc @A0d (zc @h1 Qw6)) (zc hJ (zc hE (zc hI Qw6))) Qw6 ?_;simp [A0y,A0x,Blk.cells,ty,Tryz.results37,A0s,A0u,toT,A0e,A0b,A0c,A0a,A0k]
 ·rw [if_pos h1];refine zR (zc @A0d (zc @h1 Qw6)) (zc hJ (zc hE Qw6)) Qw6 ?_;simp [A0y,A0x,Blk.cells,ty,Tryz.results37,A0s,A0u,toT,A0e,A0b,A0c,A0a,A0k]
theorem B3s (g:G) (t:List Int) (hg:g.es.length≤40) (hl:t.length<2^40):ACall Tryz.prog 152 [tG g,A0m t] (.tup [A0C (if A46 g t≠0 then [] else endsL g.es),A0k (A46 g t)]):=by
 have hJ:=B4n g hg;by_cases hj:A0w g=0
 case neg=>
  have e:A46 g t=A0w g:=by unfold A46; rw [if_pos hj]
  rw [e];rw [if_pos hj] at hJ ⊢;generalize A0w g=E at*;obtain ⟨n,es⟩:=g;refine ACall.of_body Tryz.func152 rfl (by kernel_rfl) ?_;simp only [entry,Tryz.ntmps152,tG,A0m];refine zU ?_;refine zR (zc @hj Qw6) (zc hJ Qw6) Qw6 ?_;simp [A0y,A0x,Blk.cells,ty,Tryz.results152,A0s,A0u,toT,A0e,A0b,A0c,A0a,A0k,A0C,A1b]
 have hc:checkG g=0:=by
  unfold A0w at hj;by_cases h:checkG g=0
  ·exact h
  ·rw [if_pos h] at hj; exact absurd hj h
 have h12:=(A0j.1 hc).1;have hE:=B8g g t hg (by omega);unfold C49 at hE;rw [if_neg (by omega)] at hE;have hlen:=A1t hg hc;have eT:A46 g t=if A2X (endsL g.es).length none t≠0 then A2X (endsL g.es).length none t else if (t.length:Int)≠g.n-1 then 8 else if treeB g.n.toNat (endsL g.es) t=true then 0 else 3:=by unfold A46; rw [if_neg (by omega)]
 rw [eT];rw [hj] at hJ;rw [if_neg (by omega)] at hJ;by_cases hs:A2X (endsL g.es).length none t=0
 case neg=>
  have e2:(if A2X (endsL g.es).length none t≠0 then A2X (endsL g.es).length none t else if (t.length:Int)≠g.n-1 then 8 else if treeB g.n.toNat (endsL g.es) t=true then 0 else 3)=A2X (endsL g.es).length none t:=if_pos hs;rw [e2,if_pos hs];generalize A2X (endsL g.es).length none t=E at*;generalize endsL g.es=L at*;clear hc eT e2;obtain ⟨n,es⟩:=g;refine ACall.of_body Tryz.func152 rfl (by kernel_rfl) ?_;simp only [entry,Tryz.ntmps152,tG,A0m];refine zU ?_;refine zR (zc @hs Qw6) (zc hJ (zc hE Qw6)) Qw6 ?_;simp [A0y,A0x,Blk.cells,ty,Tryz.results152,A0s,A0u,toT,A0e,A0b,A0c,A0a,A0k,A0C,A1b]
 have hn:g.n=(g.n.toNat:Nat):=by omega
 have hI:=C00 g.n.toNat (endsL g.es) t (by omega) (by omega) (fun p hp=>A51 hc hn p hp) (A4V hs) (by omega) hl;rw [<-hn] at hI;have e2:(if A2X (endsL g.es).length none t≠0 then A2X (endsL g.es).length none t else if (t.length:Int)≠g.n-1 then 8 else if treeB g.n.toNat (endsL g.es) t=true then 0 else 3)=if (t.length:Int)≠g.n-1 then 8 else if treeB g.n.toNat (endsL g.es) t=true then 0 else 3:=if_neg (by omega)
 rw [e2];rw [hs] at hE;generalize treeB g.n.toNat (endsL g.es) t=b at*;generalize endsL g.es=L at*;clear hc eT hs hj hg hn e2;obtain ⟨n,es⟩:=g;simp only at h12 hI ⊢;refine ACall.of_body Tryz.func152 rfl (by kernel_rfl) ?_;simp only [entry,Tryz.ntmps152,tG,A0m];refine zU ?_;by_cases h1:(t.length:Int)=n-1
 ·have h2: ¬((t.length:Int)≠n-1):=by omega
  simp only [if_neg h2];cases b with
  | true=>
   rw [show (if true=true then (0:Int) else 3)=0 from rfl,if_neg (by omega)];refine zR (zc @A0d (zc @h1 Qw6)) (zc hJ (zc hE (zc hI Qw6))) Qw6 ?_;simp [A0y,A0x,Blk.cells,ty,Tryz.results152,A0s,A0u,toT,A0e,A0b,A0c,A0a,A0k,A0C]
  | false=>
   rw [show (if false=true then (0:Int) else 3)=3 from rfl,if_pos (by omega)];refine zR (zc @A0d (zc @h1 Qw6)) (zc hJ (zc hE (zc hI Qw6))) Qw6 ?_;simp [A0y,A0x,Blk.cells,ty,Tryz.results152,A0s,A0u,toT,A0e,A0b,A0c,A0a,A0k,A0C,A1b]
 ·simp only [if_pos h1];rw [if_pos (by omega)];refine zR (zc @A0d (zc @h1 Qw6)) (zc hJ (zc hE Qw6)) Qw6 ?_;simp [A0y,A0x,Blk.cells,ty,Tryz.results152,A0s,A0u,toT,A0e,A0b,A0c,A0a,A0k,A0C,A1b]
theorem B8l (g:G) (t:List Int) (hg:g.es.length≤40) (hl:t.length<2^40):ACall Tryz.prog 98 [tG g,A0m t] (A0k (A46 g t)):=by
 have h:=B3s g t hg hl;generalize (if A46 g t≠0 then [] else endsL g.es)=L at*;generalize A46 g t=E at*;obtain ⟨n,es⟩:=g;refine ACall.of_body Tryz.func98 rfl (by kernel_rfl) ?_;simp only [entry,Tryz.ntmps98,tG,A0m];refine zU ?_;refine zR Qw6 (zc h Qw6) Qw6 ?_;simp [A0y,A0x,Blk.cells,ty,Tryz.results98,A0s,A0u,toT,A0e,A0b,A0c,A0a,A0k]
theorem A6m {R:List Bool} {i:Nat} (h:i<R.length):R[i]? =some (R.getD i false):=by
 rw [Qz,Qq h]; rfl
theorem C3G (n:Nat) (R:List Bool) (hR:R.length=n) {H:List Blk} (h5:H[5]? =some (.box (bC R))) (h6:H[6]? =some (.box [.ref 5 1 0 n n])) (u:Nat) (hu:u<n):
  ACallH Tryz.prog 186 H [.c (.int .i64 (u:Int)),.c (.ptr 6 0)] H (.c (.bool (R.getD u false))):=by
 have hg:=A6m (R:=R) (i:=u) (by omega);have hb:=A9D hg;generalize R.getD u false=b at*;have huI:(u:Int)<(n:Int):=by omega
 refine ACallH.of_body Tryz.func186 rfl (by kernel_rfl) ?_;simp only [entry,Tryz.ntmps186,List.length_cons,List.length_nil,Nat.reduceAdd,Nat.reduceSub,List.replicate_succ,List.replicate_zero,List.cons_append,List.nil_append];refine zR (zc @h6 (zc @h5 (zc @hb (zc @huI (zc @A1Q (zc @hR (zc @Xk Qw6))))))) Qw6 Qw6 ?_;simp [A4r,A1T,A0s,A1S,Tryz.results186]
def C4B (t:Int) (v:Nat) (d:List Int) (x:Int×Int):List Int:=(d.set v (d.getD v 0-x.2*t)).set x.1.toNat ((d.set v (d.getD v 0-x.2*t)).getD x.1.toNat 0+x.2*t)
def C4C (es:List E) (t:Int) (v:Nat) (d:List Int):List Int:=(lnkL es v).foldl (C4B t v) d
def C2q (es:List E) (t:Int) (R:List Bool):Nat->List Int->List Int
 | 0,d=>d
 | k+1,d=>if R.getD k false=true then C4C es t k (C2q es t R k d) else C2q es t R k d
def C07 (t:Int) (R:List Bool):Nat->List Int->List Int
 | 0,s=>s
 | k+1,s=>if R.getD k false=true then (C07 t R k s).set k ((C07 t R k s).getD k 0+t) else C07 t R k s
def bndL (K:Int) (d:List Int):Prop:= ∀i,-K≤d.getD i 0∧d.getD i 0≤K
theorem A11 {d:List Int} {i:Nat} (h:i<d.length):d[i]? =some (d.getD i 0):=by
 rw [Qz,Qq h]; rfl
section
variable {N:Nat} {f:Nat->Nat}
end
section
variable {J:List (Int×Int)}
end
end Go.Proofs.YtdbdfkohpjefjaaGreat
