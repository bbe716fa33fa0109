/- A part of the proof. -/
import Derived.Test.YtdbdfkohpjefjaaGreatPart29
import Derived.Test.YtdbdfkohpjefjaaGreatPart30
import Derived.Test.YtdbdfkohpjefjaaGreatPart32
set_option linter.all false
set_option maxHeartbeats 4000000
set_option maxRecDepth 100000
namespace Go.Proofs.YtdbdfkohpjefjaaGreat
open Go.Sp
def jnB (es:List E) (R:List Bool) (v:Nat):Int:=joinL (fun u=>R.getD u.toNat false) (lnkL es v)
def C4F (es:List E) (d:List Int) (R:List Bool) (v:Nat):Bool:= !R.getD v false&&decide (d.getD v 0<jnB es R v)
def A2J (es:List E) (d:List Int) (R:List Bool):Nat->List Bool×Bool
 | 0=>(R,false)
 | k+1=>if C4F es d (A2J es d R k).1 k=true then ((A2J es d R k).1.set k true,true) else A2J es d R k
theorem A7m (es:List E) (d:List Int) (R:List Bool) (k:Nat):A2J es d R (k+1)=if C4F es d (A2J es d R k).1 k=true then ((A2J es d R k).1.set k true,true) else A2J es d R k:=rfl
structure Burn (es:List E) (d:List Int) (q:Nat) (R:List Bool) (L:List Nat):Prop where
 nd:L.Nodup
 mem: ∀v,R.getD v false=true↔v∈L
 hd:L[0]? =some q
 ord: ∀i v,1≤i->L[i]? =some v->d.getD v 0<joinL (fun u=>decide (u.toNat∈L.take i)) (lnkL es v)
def C6v (es:List E) (d:List Int) (q:Nat) (R:List Bool):Prop:= ∃L,Burn es d q R L
theorem A4T (es:List E) (d:List Int) (R:List Bool): ∀k,(A2J es d R k).1.length=R.length
 | 0=>rfl
 | k+1=>by
  rw [A7m];split
  ·simp only [Yw]; exact A4T es d R k
  ·exact A4T es d R k
def C4i (R:List Bool):Nat:=R.countP fun b=> !b
theorem B5t: ∀{R:List Bool} {k:Nat},R[k]? =some false->C4i (R.set k true)+1=C4i R
 | [],k,h=>by simp at h
 | b::R,0,h=>by simp at h; subst h; simp [C4i]
 | b::R,k+1,h=>by
  have:=B5t (R:=R) (k:=k) (by simpa using h);unfold C4i at this ⊢;simp only [List.set_cons_succ,Qz9];omega
theorem B24 (es:List E) (d:List Int) (R:List Bool): ∀k,k≤R.length->C4i (A2J es d R k).1+(if (A2J es d R k).2=true then 1 else 0)≤C4i R∧((A2J es d R k).2=false->(A2J es d R k).1=R∧ ∀v,v<k->C4F es d R v=false)
 | 0,_=>⟨by simp [A2J],fun _=>⟨rfl,fun v hv=>by omega⟩⟩
 | k+1,hk=>by
  obtain ⟨h1,h2⟩:=B24 es d R k (by omega);rw [A7m];split
  ·rename_i hm;refine ⟨?_,fun h=>by cases h⟩;have hm2:=hm;unfold C4F at hm2;simp only [XY,Wj,decide_eq_true_eq] at hm2;have:=B5t (R:=(A2J es d R k).1) (k:=k) (by rw [A64 (by rw [A4T]; omega),hm2.1]);simp only [if_true];split at h1<;>omega
  ·rename_i hm;rw [Qq5] at hm;refine ⟨h1,fun h=> ?_⟩;obtain ⟨e,h3⟩:=h2 h;refine ⟨e,fun v hv=> ?_⟩;by_cases hvk:v=k
   ·subst hvk; rw [e] at hm; exact hm
   ·exact h3 v (by omega)
def A6A (R:List Bool) (k:Nat):Bool:=(List.range k).any fun v=> !R.getD v false
def B1q (R:List Bool) (n k:Nat):List Bool:=(List.range n).map fun v=>decide (v<k)&& !R.getD v false
theorem A7S (R:List Bool) (n k:Nat):(B1q R n k).length=n:=by simp [B1q]
theorem B5u (R:List Bool) (n k i:Nat):(B1q R n k)[i]? =if i<n then some (decide (i<k)&& !R.getD i false) else none:=by
 unfold B1q;rw [QY];by_cases h:i<n
 ·rw [if_pos h,Yv h]; rfl
 ·rw [if_neg h,Xq (by simpa using h)]; rfl
theorem C2a (R:List Bool) {n k:Nat} (hk:k<n):(B1q R n k).set k (!R.getD k false)=B1q R n (k+1):=by
 apply Zx;intro i;rw [Qw5,A7S,B5u,B5u];by_cases e:k=i
 ·subst e;rw [if_pos rfl,if_pos hk,if_pos hk,decide_eq_true (show k<k+1 by omega)]; rfl
 ·rw [if_neg e];by_cases h:i<n
  ·rw [if_pos h,if_pos h,decide_eq_decide.2 (show i<k↔i<k+1 by omega)]
  ·rw [if_neg h,if_neg h]
theorem B6K (R:List Bool) (k:Nat):A6A R (k+1)=(A6A R k|| !R.getD k false):=by
 unfold A6A; rw [Jq,List.any_append]; simp
theorem C2b (R:List Bool):(bC R).mapM A0a=some (R.map Tree.bool):=by
 induction R with
 | nil=>rfl
 | cons b R ih=>
  unfold bC at ih ⊢;rw [Xk,JX,ih]; rfl
theorem C4j {R:List Bool} {r:List Tree} (h:r∈A4v R):r.length=1:=by
 unfold A4v at h;obtain ⟨b,_,rfl⟩:=QJ.1 h; rfl
theorem B9I (R:List Bool) (i:Nat) (r:List Tree) (m:Nat) (x:Tree) (h1:(A4v R)[i]? =some r) (h2:r[m]? =some x):(R.map Tree.bool)[i*1+m]? =some x:=by
 unfold A4v at h1;rw [QY] at h1;obtain ⟨b,hb,rfl⟩:=Option.map_eq_some_iff.1 h1;cases m with
 | zero=>simp at h2; subst h2; rw [Yj,Nat.add_zero,QY,hb]; rfl
 | succ m=>simp at h2
inductive BEnd (es:List E) (d:List Int) (n:Nat):List Bool->List Bool->Prop where
 | stop {R:List Bool}:(A2J es d R n).2=false->BEnd es d n R R
 | go {R B:List Bool}:(A2J es d R n).2=true->BEnd es d n (A2J es d R n).1 B->BEnd es d n R B
def A9h (n q:Nat):List Bool:=(List.replicate n false).set q true
theorem B4g (n q:Nat) (es:List E) (d s:List Int) (h1:1≤n) (h12:n≤12) (hq:q<n) (hd:d.length=n) (hs:s.length=n) (hl:es.length≤40) (hm: ∀e,e∈es->(0≤e.a∧e.a<n)∧(0≤e.b∧e.b<n)∧0≤e.m∧e.m≤50) (B:List Bool) (hB:BEnd es d n (A9h n q) B) (hBl:B.length=n):
  ∃X,ACallH Tryz.prog 163 [.box [.int .i64 (n:Int),.slice (A0f es) .none],.ro [.int .i64 (n:Int),.slice (A0f es)],.box (iC d),.box (iC s),.roC [.tree (.int .i64 (n:Int)),.tree (.slice (A0f es)),.tree (.int .i64 (q:Int)),.ref 2 1 0 n n,.ref 3 1 0 n n,.tree (.int .i64 0)]] [.c (.ptr 4 0)] ([.box [.int .i64 (n:Int),.slice (A0f es) .none],.ro [.int .i64 (n:Int),.slice (A0f es)],.box (iC d),.box (iC s),.roC [.tree (.int .i64 (n:Int)),.tree (.slice (A0f es)),.tree (.int .i64 (q:Int)),.ref 2 1 0 n n,.ref 3 1 0 n n,.tree (.int .i64 0)]]++X) (.tup [.c (.slice (A4v (B1q B n n)) .none),.c (.bool (A6A B n))]):=by
 refine ⟨[.box (bC B),.box [.ref 5 1 0 n n],.ro ((B1q B n n).map Tree.bool)],?_⟩;have hqI:(q:Int)<(n:Int):=by omega
 have hdn:d≠[]:=by intro e; rw [e] at hd; simp at hd; omega
 have hsn:s≠[]:=by intro e; rw [e] at hs; simp at hs; omega
 have hli:(A9h n q).length=n:=by simp [A9h]
 have hkb: ∀(v:Nat) u k,(u,k)∈lnkL es v-> ∃w:Nat,u=w∧w<n:=fun v u k hx=>by
  obtain ⟨e,he,e1,_,e2⟩:=A7i hx;have:=hm e he;simp only at e2;exact ⟨u.toNat,by omega,by omega⟩
 have hJ: ∀(R:List Bool) (v:Nat),R.length=n->v<n->ACallH Tryz.prog 161 [.box [.int .i64 (n:Int),.slice (A0f es) .none],.ro [.int .i64 (n:Int),.slice (A0f es)],.box (iC d),.box (iC s),.roC [.tree (.int .i64 (n:Int)),.tree (.slice (A0f es)),.tree (.int .i64 (q:Int)),.ref 2 1 0 n n,.ref 3 1 0 n n,.tree (.int .i64 0)],.box (bC R),.box [.ref 5 1 0 n n]] [.c (.ptr 4 0),.c (.int .i64 (v:Int)),.c (.fn 186 [.ptr 6 0])] [.box [.int .i64 (n:Int),.slice (A0f es) .none],.ro [.int .i64 (n:Int),.slice (A0f es)],.box (iC d),.box (iC s),.roC [.tree (.int .i64 (n:Int)),.tree (.slice (A0f es)),.tree (.int .i64 (q:Int)),.ref 2 1 0 n n,.ref 3 1 0 n n,.tree (.int .i64 0)],.box (bC R),.box [.ref 5 1 0 n n]] (.c (.int .i64 (jnB es R v))):=fun R v hR hv=>
  B8U n q es d s R hdn hsn (by intro e; rw [e] at hR; simp at hR; omega) (by omega) (fun e he=>by have:=hm e he; omega) v (by omega) _ _ fun X u k hx=>by
   obtain ⟨w,rfl,hw⟩:=hkb v u k hx;exact C5t n R hR rfl rfl w hw
 have hr0:=A6w (List.replicate n false) q true;have hrl:(List.replicate n false:List Bool).length=n:=by simp
 have hr0':(bC (List.replicate n false)).set q (.bool true)=bC (A9h n q):=hr0;simp only [List.cons_append,List.nil_append];refine ACallH.of_body Tryz.func163 rfl (by kernel_rfl) ?_;simp only [entry,Tryz.ntmps163,List.length_cons,List.length_nil,Nat.reduceAdd,Nat.reduceSub,List.replicate_succ,List.replicate_zero,List.cons_append,List.nil_append];refine zR (zc @hqI (zc @A3M (zc @hr0' (zc @hrl (zc @A1U (zc @Xy Qw9)))))) Qw9 Qw9 ?_;refine AWp.loopS (α:=(List Bool×Bool)) 85 (fun w=>[(0,.c (.ptr 4 0)),(4,.c (.ptr 6 0)),(5,.c (.fn 186 [.ptr 6 0])),(6,.c (.bool w.2))]) (fun w=>[.box [.int .i64 (n:Int),.slice (A0f es) .none],.ro [.int .i64 (n:Int),.slice (A0f es)],.box (iC d),.box (iC s),.roC [.tree (.int .i64 (n:Int)),.tree (.slice (A0f es)),.tree (.int .i64 (q:Int)),.ref 2 1 0 n n,.ref 3 1 0 n n,.tree (.int .i64 0)],.box (bC w.1),.box [.ref 5 1 0 n n]]) (fun w=>w.1.length=n∧(w.2=true->BEnd es d n w.1 B)∧(w.2=false->w.1=B)) (fun w=>2*C4i w.1+(if w.2=true then 1 else 0)) ((A9h n q,true)) (hk:=Weak.headL 7 85 [0,4,5,6] (zV3 @A1e @A0F @A0G)) (h0:=?_) (round:=fun w hI=>?_)
 ·exact ⟨hli,fun _=>hB,fun h=>by cases h⟩
 ·obtain ⟨R,ag⟩:=w;obtain ⟨hRl,hI1,hI2⟩:=hI;simp only at hRl hI1 hI2 ⊢;cases ag with
  | true=>
   have hE:=hI1 rfl;clear hI1 hI2;have hcnt:=B24 es d R n (by omega);refine zR Qw9 Qw9 Qw9 ?_;refine AWp.loopS (α:=Nat) 85 (fun k=>[(0,.c (.ptr 4 0)),(4,.c (.ptr 6 0)),(5,.c (.fn 186 [.ptr 6 0])),(6,.c (.bool (A2J es d R k).2)),(29,.c (.int .i64 (n:Int))),(30,.c (.int .i64 (k:Int)))]) (fun k=>[.box [.int .i64 (n:Int),.slice (A0f es) .none],.ro [.int .i64 (n:Int),.slice (A0f es)],.box (iC d),.box (iC s),.roC [.tree (.int .i64 (n:Int)),.tree (.slice (A0f es)),.tree (.int .i64 (q:Int)),.ref 2 1 0 n n,.ref 3 1 0 n n,.tree (.int .i64 0)],.box (bC (A2J es d R k).1),.box [.ref 5 1 0 n n]]) (fun k=>k≤n) (fun k=>n-k) (0) (hk:=Weak.headL 7 85 [0,4,5,6,29,30] (zV3 @A1e @A0F @A0G)) (h0:=?_) (round:=fun k hI=>?_)
   ·exact Xj _
   ·have hk:k≤n:=hI;clear hI;by_cases hkl:k<n
    ·have hkI:(k:Int)<(n:Int):=by omega
     have hps:=A7m es d R k;have hpl:=A4T es d R k;rw [hRl] at hpl;have hJk:=hJ (A2J es d R k).1 k hpl hkl;generalize A2J es d R k=p at*;generalize hp1:A2J es d R (k+1)=p1 at*;obtain ⟨Rk,ak⟩:=p;simp only at hpl hJk hps ⊢;have hg:=B0c (A64 (R:=Rk) (i:=k) (by omega));have hds:=A6t (A1t (d:=d) (i:=k) (by omega));have hst:=A6w Rk k true;unfold C4F at hps;generalize d.getD k 0=dv at*;generalize jnB es Rk k=jv at*;cases hbk:Rk.getD k false with
     | true=>
      rw [hbk] at hps hg;simp only [VJ,VW] at hps;rw [if_neg (by simp)] at hps;refine zR (zc @hkI (zc @hg (zc @A1U (zc @hpl (zc @Xy Qw9))))) Qw9 Qw9 ?_;refine ⟨k+1,Weak.headF 7 85 [0,4,5,6,29,30] (zc @hp1 (zc @hps Qw9)) (zV3 @A1e @A0F @A0G),?_,?_⟩
      ·exact hkl
      ·omega
     | false=>
      rw [hbk] at hps hg;simp only [Qq8,Vw,decide_eq_true_eq] at hps;by_cases hlt:dv<jv
      ·rw [if_pos hlt] at hps;refine zJ Qw9 (zc @hkI (zc @hg (zc @hds (zc @hlt (zc @hst (zc @A1U (zc @A12 (zc @hd (zc @hpl (zc @Xy Qw9)))))))))) Qw9 (zc hJk Qw9) Qw9 ?_;refine ⟨k+1,Weak.headF 7 85 [0,4,5,6,29,30] (zc @hp1 (zc @hps Qw9)) (zV3 @A1e @A0F @A0G),?_,?_⟩
       ·exact hkl
       ·omega
      ·rw [if_neg hlt] at hps;refine zJ Qw9 (zc @hkI (zc @hg (zc @hds (zc @hlt (zc @A1U (zc @A12 (zc @hd (zc @hpl (zc @Xy Qw9))))))))) Qw9 (zc hJk Qw9) Qw9 ?_;refine ⟨k+1,Weak.headF 7 85 [0,4,5,6,29,30] (zc @hp1 (zc @hps Qw9)) (zV3 @A1e @A0F @A0G),?_,?_⟩
       ·exact hkl
       ·omega
    ·have hnl: ¬(k:Int)<(n:Int):=by omega
     have ek:k=n:=by omega
     have hpl:=A4T es d R n;rw [ek] at*;refine zR (zc @hnl Qw9) Qw9 Qw9 ?_;refine ⟨A2J es d R n,Weak.headN 7 85 [0,4,5,6] (zV3 @A1e @A0F @A0G),?_,?_⟩
     ·refine ⟨hpl.trans hRl,fun h=> ?_,fun h=> ?_⟩
      ·cases hE with
       | stop hp=>rw [hp] at h; cases h
       | go hp hE'=>exact hE'
      ·cases hE with
       | stop hp=>exact (hcnt.2 hp).1
       | go hp hE'=>rw [hp] at h; cases h
     ·have h1:=hcnt.1;cases hp2:(A2J es d R n).2<;>simp [hp2] at h1 ⊢<;>omega
  | false=>
   have hRB:=hI2 rfl;subst hRB;clear hI1 hI2 hB;have hn0:B1q R n 0=List.replicate n false:=by
    apply Qz8
    ·simp [B1q]
    ·intro i h1 h2; simp [B1q]
   have hs0:A6A R 0=false:=rfl;refine zR (zc @A3M (zc @A1U (zc @hRl Qw9))) Qw9 Qw9 ?_;rw [<-hn0];refine AWp.loopS (α:=Nat) 85 (fun k=>[(0,.c (.ptr 4 0)),(4,.c (.ptr 6 0)),(8,.c (.ref 7 1 0 n n)),(9,.c (.bool (A6A R k))),(63,.c (.int .i64 (n:Int))),(64,.c (.int .i64 (k:Int)))]) (fun k=>[.box [.int .i64 (n:Int),.slice (A0f es) .none],.ro [.int .i64 (n:Int),.slice (A0f es)],.box (iC d),.box (iC s),.roC [.tree (.int .i64 (n:Int)),.tree (.slice (A0f es)),.tree (.int .i64 (q:Int)),.ref 2 1 0 n n,.ref 3 1 0 n n,.tree (.int .i64 0)],.box (bC R),.box [.ref 5 1 0 n n],.box (bC (B1q R n k))]) (fun k=>k≤n) (fun k=>n-k) (0) (hk:=Weak.headL 8 85 [0,4,8,9,63,64] (zV3 @A1e @A0F @A0G)) (h0:=?_) (round:=fun k hI=>?_)
   ·exact Xj _
   ·have hk:k≤n:=hI;clear hI;by_cases hkl:k<n
    ·have hkI:(k:Int)<(n:Int):=by omega
     have hg:=B0c (A64 (R:=R) (i:=k) (by omega));have hns:=C2a R hkl;have hnl:=A7S R n k;have hnl1:=A7S R n (k+1);have hso:=B6K R k;generalize R.getD k false=b at*;have hbs:=A6w (B1q R n k) k (!b);rw [hns] at hbs;have hg2:(bC (B1q R n (k+1)))[k]? =some (.bool (!b)):=by rw [<-hbs]; exact QW (by rw [A1U,hnl]; exact hkl)
     generalize hn1:B1q R n (k+1)=N1 at*;generalize B1q R n k=N0 at*;generalize hso1:A6A R (k+1)=S1 at*;cases hS0:A6A R k with
     | true=>
      rw [hS0,Bool.true_or] at hso;refine zR (zc @hkI (zc @hg (zc @hg2 (zc @hbs (zc @A1U (zc @hRl (zc @hnl (zc @hnl1 (zc @Xy Qw9))))))))) Qw9 Qw9 ?_;refine ⟨k+1,Weak.headF 8 85 [0,4,8,9,63,64] (zc @hn1 (zc @hso1 (zc @hso Qw9))) (zV3 @A1e @A0F @A0G),?_,?_⟩
      ·exact hkl
      ·omega
     | false=>
      rw [hS0,Qq2] at hso;refine zR (zc @hkI (zc @hg (zc @hg2 (zc @hbs (zc @A1U (zc @hRl (zc @hnl (zc @hnl1 (zc @Xy Qw9))))))))) Qw9 Qw9 ?_;refine ⟨k+1,Weak.headF 8 85 [0,4,8,9,63,64] (zc @hn1 (zc @hso1 (zc @hso Qw9))) (zV3 @A1e @A0F @A0G),?_,?_⟩
      ·exact hkl
      ·omega
    ·have hnl: ¬(k:Int)<(n:Int):=by omega
     have ek:k=n:=by omega
     have hln:=A7S R n n;rw [ek];rw [ek] at hnl;refine zJ (stop 21) (zc @hnl Qw9) Qw9 Qw9 Qw9 ?_;refine AWp.freezeR 8 7 1 n n rfl rfl (C2b _) (A4v (B1q R n n)) (by rw [A4O,hln]) (QQ _) (fun r hr=>C4j hr) (B9I _) ?_;refine zR Qw9 Qw9 Qw9 ?_;simp [A4D,A1Y,A0s,A1X,Tryz.results163]
abbrev BS3:=List Int×List Nat×Nat
def stepD (v:Nat) (s:BS3) (x:Int×Int):BS3:=if s.1.getD x.1.toNat 0<0 then (s.1.set x.1.toNat (s.1.getD v 0+1),s.2.1++[x.1.toNat],s.2.2+1) else s
def B7m (es:List E) (v:Nat) (s:BS3):BS3:=(lnkL es v).foldl (stepD v) s
def cntNeg (o:List Int):Nat:=o.countP fun x=>decide (x<0)
theorem A5w: ∀{o:List Int} {u:Nat} {x y:Int},o[u]? =some y->y<0->0≤x->cntNeg (o.set u x)+1=cntNeg o
 | [],u,x,y,h,_,_=>by simp at h
 | a::o,0,x,y,h,h1,h2=>by
  simp at h; subst h;unfold cntNeg;simp only [List.set_cons_zero,Qz9];rw [if_pos (decide_eq_true h1),if_neg (by simpa using h2)]
 | a::o,u+1,x,y,h,h1,h2=>by
  have:=A5w (o:=o) (u:=u) (x:=x) (y:=y) (by simpa using h) h1 h2;unfold cntNeg at this ⊢;simp only [List.set_cons_succ,Qz9];omega
theorem A4U (o:List Int) (k:Nat) (x:Int) (v:Nat) (hk:k<o.length):(o.set k x).getD v 0=if v=k then x else o.getD v 0:=by
 rw [Qz,Qw5];by_cases e:k=v
 ·subst e; rw [if_pos rfl,if_pos hk,if_pos rfl]; rfl
 ·rw [if_neg e,if_neg (fun h=>e h.symm),Qz]
theorem C4k {es:List E} {v:Int} {x:Int×Int} (h:x∈lnkL es v):(v,x.2)∈lnkL es x.1:=by
 obtain ⟨e,he,h1,h2,h3⟩:=A7i h;unfold lnkL;rw [List.mem_filterMap];refine ⟨e,he,?_⟩;unfold C0Z;rcases h3 with ⟨h3,h4⟩ | ⟨h3,h4⟩
 ·rw [if_pos ⟨h2,.inr h4.symm⟩,h1,h4,<-h3]; congr 2; omega
 ·rw [if_pos ⟨h2,.inl h4.symm⟩,h1,h4,<-h3]; congr 2; omega
structure BFq (es:List E) (n q:Nat) (o:List Int) (Q:List Nat):Prop where
 len:o.length=n
 q0:o.getD q 0=0
 bnd: ∀x,x<n-> -1≤o.getD x 0∧o.getD x 0+cntNeg o≤n-1
 qm: ∀a,a∈Q->a<n∧0≤o.getD a 0
 srt:Q.Pairwise fun a b=>o.getD a 0≤o.getD b 0
 gap: ∀a b,a∈Q->b∈Q->o.getD b 0≤o.getD a 0+1
 proc: ∀x,x<n->0≤o.getD x 0->x∉Q->(∀a,a∈Q->o.getD x 0≤o.getD a 0)∧ ∀y,y∈lnkL es x->0≤o.getD y.1.toNat 0∧o.getD y.1.toNat 0≤o.getD x 0+1
 par: ∀x,x<n->x≠q->0≤o.getD x 0-> ∃y,y∈lnkL es x∧0≤o.getD y.1.toNat 0∧o.getD y.1.toNat 0+1=o.getD x 0
structure PBq (es:List E) (n q v:Nat) (l:List (Int×Int)) (o:List Int) (Q:List Nat):Prop where
 len:o.length=n
 q0:o.getD q 0=0
 bnd: ∀x,x<n-> -1≤o.getD x 0∧o.getD x 0+cntNeg o≤n-1
 vv:v<n∧0≤o.getD v 0
 qm: ∀a,a∈Q->a<n∧o.getD v 0≤o.getD a 0∧o.getD a 0≤o.getD v 0+1
 srt:Q.Pairwise fun a b=>o.getD a 0≤o.getD b 0
 proc: ∀x,x<n->x≠v->0≤o.getD x 0->x∉Q->o.getD x 0≤o.getD v 0∧ ∀y,y∈lnkL es x->0≤o.getD y.1.toNat 0∧o.getD y.1.toNat 0≤o.getD x 0+1
 par: ∀x,x<n->x≠q->0≤o.getD x 0-> ∃y,y∈lnkL es x∧0≤o.getD y.1.toNat 0∧o.getD y.1.toNat 0+1=o.getD x 0
 dn: ∀y,y∈l->0≤o.getD y.1.toNat 0∧o.getD y.1.toNat 0≤o.getD v 0+1
section
variable {es:List E} {n q v:Nat}
theorem BFq.pop {o:List Int} {Q:List Nat} (h:BFq es n q o (v::Q)):PBq es n q v [] o Q:=by
 have hv:=h.qm v (by simp);have hs:=YY.1 h.srt;refine ⟨h.len,h.q0,h.bnd,hv,fun a ha=>⟨(h.qm a (by simp [ha])).1,hs.1 a ha,h.gap v a (by simp) (by simp [ha])⟩,hs.2,fun x hx hxv h0 hxQ=> ?_,h.par,by simp⟩;have:=h.proc x hx h0 (by simp [hxv,hxQ]);exact ⟨this.1 v (by simp),this.2⟩
theorem PBq.step {l:List (Int×Int)} {s:BS3} (h:PBq es n q v l s.1 s.2.1) {x:Int×Int} (hx:x∈lnkL es v) (hxn:0≤x.1∧x.1<n):PBq es n q v (l++[x]) (stepD v s x).1 (stepD v s x).2.1:=by
 obtain ⟨o,Q,p⟩:=s;obtain ⟨u,k⟩:=x;simp only at h hxn;obtain ⟨w,rfl⟩:=XW hxn.1;have hw:w<n:=by omega
 obtain ⟨e,he,_,hne,hab⟩:=A7i hx;have hwv:w≠v:=by rintro rfl; simp only at hab; omega
 unfold stepD;simp only [Int.toNat_natCast];split
 ·rename_i hneg;have hg:=fun y=>A4U o w (o.getD v 0+1) y (by rw [h.len]; exact hw);have hv0:=h.vv.2;have hgv:(o.set w (o.getD v 0+1)).getD v 0=o.getD v 0:=by rw [hg,if_neg (Ne.symm hwv)]
  have hgo: ∀y,0≤o.getD y 0->(o.set w (o.getD v 0+1)).getD y 0=o.getD y 0:=fun y hy=>by
   rw [hg,if_neg]; rintro rfl; omega
  have hcn:=A5w (o:=o) (u:=w) (x:=o.getD v 0+1) (y:=o.getD w 0) (A1t (by rw [h.len]; exact hw)) hneg (by omega);have hqw:q≠w:=by rintro rfl; have:=h.q0; omega
  have hQ0: ∀a,a∈Q->0≤o.getD a 0:=fun a ha=>by have:=h.qm a ha; omega
  show PBq es n q v _ (o.set w (o.getD v 0+1)) (Q++[w]);refine ⟨by rw [Yw]; exact h.len,by rw [hg,if_neg hqw]; exact h.q0,fun x hx=> ?_,⟨h.vv.1,by rw [hgv]; exact hv0⟩,fun a ha=> ?_,?_,fun x hxn hxv h0 hxQ=> ?_,fun x hxn hxq h0=> ?_,fun y hy=> ?_⟩
  ·have h1:=h.bnd x hx;have h2:=h.bnd v h.vv.1;rw [hg];by_cases e:x=w
   ·rw [if_pos e]; omega
   ·rw [if_neg e]; omega
  ·rw [hgv];rcases XJ.1 ha with ha | ha
   ·rw [hgo a (hQ0 a ha)]; exact h.qm a ha
   ·rw [Zz.1 ha,hg,if_pos rfl]; exact ⟨hw,by omega,Qx6 _⟩
  ·rw [Qq9];refine ⟨h.srt.imp_of_mem fun {a b} ha hb hab=>by rw [hgo a (hQ0 a ha),hgo b (hQ0 b hb)]; exact hab,by simp,fun a ha b hb=> ?_⟩;rw [Zz.1 hb,hgo a (hQ0 a ha),hg w,if_pos rfl];exact (h.qm a ha).2.2
  ·have hxw:x≠w:=fun e=>hxQ (by rw [e]; simp);rw [hg,if_neg hxw] at h0 ⊢;rw [hgv];obtain ⟨q1,q2⟩:=h.proc x hxn hxv h0 fun hm=>hxQ (Qw0 _ hm);refine ⟨q1,fun y hy=> ?_⟩;have:=q2 y hy;rw [hgo _ this.1]; exact this
  ·by_cases hxw:x=w
   ·subst hxw;refine ⟨((v:Nat),k),C4k hx,?_,?_⟩
    ·simp only [Int.toNat_natCast]; rw [hgv]; exact hv0
    ·simp only [Int.toNat_natCast]; rw [hgv,hg,if_pos rfl]
   ·rw [hg,if_neg hxw] at h0 ⊢;obtain ⟨y,y1,y2,y3⟩:=h.par x hxn hxq h0;exact ⟨y,y1,by rw [hgo _ y2]; exact y2,by rw [hgo _ y2]; exact y3⟩
  ·rw [hgv];rcases XJ.1 hy with hy | hy
   ·have:=h.dn y hy;rw [hgo _ this.1]; exact this
   ·rw [Zz.1 hy];simp only [Int.toNat_natCast];rw [hg,if_pos rfl]; omega
 ·rename_i hneg;refine { h with dn:=fun y hy=> ?_ };rcases XJ.1 hy with hy | hy
  ·exact h.dn y hy
  ·rw [Zz.1 hy];simp only [Int.toNat_natCast];refine ⟨by omega,?_⟩;by_cases hm:w∈Q
   ·exact (h.qm w hm).2.2
   ·have:=(h.proc w hw hwv (by omega) hm).1; omega
theorem PBq.all {s:BS3} (hn: ∀x,x∈lnkL es v->0≤x.1∧x.1<n) (h:PBq es n q v [] s.1 s.2.1): ∀j,j≤(lnkL es v).length->PBq es n q v ((lnkL es v).take j) (((lnkL es v).take j).foldl (stepD v) s).1 (((lnkL es v).take j).foldl (stepD v) s).2.1
 | 0,_=>h
 | j+1,hj=>by
  have hlt:j<(lnkL es v).length:=by omega
  have hm:=Xw hlt;have ih:=PBq.all hn h j (by omega);rw [XX hlt,Qj8];exact ih.step hm (hn _ hm)
theorem PBq.done {o:List Int} {Q:List Nat} (h:PBq es n q v (lnkL es v) o Q):BFq es n q o Q:=by
 refine ⟨h.len,h.q0,h.bnd,fun a ha=>⟨(h.qm a ha).1,by have:=h.qm a ha; have:=h.vv; omega⟩,h.srt,fun a b ha hb=>by have:=h.qm a ha; have:=h.qm b hb; omega,fun x hx h0 hxQ=> ?_,h.par⟩;by_cases e:x=v
 ·subst e; exact ⟨fun a ha=>(h.qm a ha).2.1,h.dn⟩
 ·have:=h.proc x hx e h0 hxQ;exact ⟨fun a ha=>Int.le_trans this.1 (h.qm a ha).2.1,this.2⟩
theorem B9J (v:Nat) (s:BS3) (x:Int×Int) (h:0≤s.1.getD v 0) (hx:x.1.toNat<s.1.length):2*cntNeg (stepD v s x).1+(stepD v s x).2.1.length≤2*cntNeg s.1+s.2.1.length:=by
 unfold stepD;split
 ·rename_i hneg;have:=A5w (o:=s.1) (u:=x.1.toNat) (x:=s.1.getD v 0+1) (A1t hx) hneg (by omega);simp only [Xv,List.length_singleton]; omega
 ·exact QQ _
theorem PBq.cnt {s:BS3} (hn: ∀x,x∈lnkL es v->0≤x.1∧x.1<n) (h:PBq es n q v [] s.1 s.2.1): ∀j,j≤(lnkL es v).length->2*cntNeg (((lnkL es v).take j).foldl (stepD v) s).1+(((lnkL es v).take j).foldl (stepD v) s).2.1.length≤2*cntNeg s.1+s.2.1.length
 | 0,_=>QQ _
 | j+1,hj=>by
  have hlt:j<(lnkL es v).length:=by omega
  have hm:=Xw hlt;have ih:=PBq.cnt hn h j (by omega);have hp:=h.all hn j (by omega);rw [XX hlt,Qj8];refine Yk (B9J v _ _ hp.vv.2 (by rw [hp.len]; have:=hn _ hm; omega)) ih
theorem B6L (v:Nat) (s:BS3) {j:Nat} {x:Int×Int} (h:(lnkL es v)[j]? =some x):((lnkL es v).take (j+1)).foldl (stepD v) s=stepD v (((lnkL es v).take j).foldl (stepD v) s) x:=by
 rw [take_snoc h,Qj8]; rfl
theorem B25 (v:Nat): ∀(l:List (Int×Int)) (s:BS3),(l.foldl (stepD v) s).1.length=s.1.length
 | [],_=>rfl
 | x::l,s=>by
  rw [List.foldl_cons,B25 v l];unfold stepD;split
  ·simp only [Yw]
  ·rfl
inductive DEnd (es:List E):BS3->List Int->Nat->Prop where
 | stop {o:List Int} {p:Nat}:DEnd es (o,[],p) o p
 | go {o B:List Int} {v:Nat} {Q:List Nat} {p pB:Nat}:DEnd es (B7m es v (o,Q,p)) B pB->DEnd es (o,v::Q,p) B pB
theorem C6N (hn: ∀(v:Nat) x,x∈lnkL es v->0≤x.1∧x.1<n): ∀(f:Nat) (s:BS3),2*cntNeg s.1+s.2.1.length≤f->BFq es n q s.1 s.2.1-> ∃B pB,DEnd es s B pB∧BFq es n q B []:=by
 intro f
 induction f with
 | zero=>
  rintro ⟨o,Q,p⟩ hc h;simp only at hc h;cases Q with
  | nil=>exact ⟨o,p,.stop,h⟩
  | cons v Q=>simp at hc
 | succ f ih=>
  rintro ⟨o,Q,p⟩ hc h;simp only at hc h;cases Q with
  | nil=>exact ⟨o,p,.stop,h⟩
  | cons v Q=>
   have hp:=h.pop;have hd:=PBq.all (s:=(o,Q,p)) (hn v) hp _ (QQ _);have hct:=PBq.cnt (s:=(o,Q,p)) (hn v) hp _ (QQ _);rw [Zy] at hd hct;obtain ⟨B,pB,b1,b2⟩:=ih (B7m es v (o,Q,p)) (by unfold B7m; simp only [List.length_cons] at hc; simp only at hct; omega) hd.done;exact ⟨B,pB,.go b1,b2⟩
end
def A7C (n q:Nat):List Int:=(List.replicate n (-1)).set q 0
theorem B6M (n:Nat):cntNeg (List.replicate n (-1))=n:=by
 induction n with
 | zero=>rfl
 | succ n ih=>unfold cntNeg at ih ⊢; rw [List.replicate_succ,Qz9,ih]; simp
theorem B5v {es:List E} {n q:Nat} (hq:q<n):BFq es n q (A7C n q) [q]:=by
 have hrl:(List.replicate n (-1):List Int).length=n:=by simp
 have hg: ∀x,(A7C n q).getD x 0=if x=q then 0 else (List.replicate n (-1)).getD x 0:=fun x=>A4U _ q 0 x (by rw [hrl]; exact hq)
 have hr: ∀x,x<n->(List.replicate n (-1):List Int).getD x 0= -1:=fun x hx=>by
  rw [Qz,Qx0,if_pos hx]; rfl
 have hc:=A5w (o:=List.replicate n (-1)) (u:=q) (x:=0) (y:= -1) (by rw [Qx0,if_pos hq]) (by decide) (by decide);rw [B6M] at hc;have hc':cntNeg (A7C n q)+1=n:=hc;have hneg: ∀x,x<n->0≤(A7C n q).getD x 0->x=q:=fun x hx h0=>by
  refine XZ fun e=> ?_;rw [hg,if_neg e,hr x hx] at h0; omega
 refine ⟨by simp [A7C],by rw [hg,if_pos rfl],fun x hx=> ?_,fun a ha=> ?_,by simp,fun a b ha hb=> ?_,fun x hx h0 hxQ=> ?_,fun x hx hxq h0=> ?_⟩
 ·rw [hg];by_cases e:x=q
  ·rw [if_pos e]; omega
  ·rw [if_neg e,hr x hx]; omega
 ·rw [Zz.1 ha,hg,if_pos rfl]; exact ⟨hq,Qx6 _⟩
 ·rw [Zz.1 ha,Zz.1 hb]; omega
 ·exact absurd (by rw [hneg x hx h0]; simp) hxQ
 ·exact absurd (hneg x hx h0) hxq
section
variable {E n:Nat} {g:Nat->Nat} {t:Nat->Bool}
def B1r (n:Nat) (A:Nat->Bool):Int:=sumR (fun v=>if A v=true then 1 else 0) n
def inE (E:Nat) (g:Nat->Nat) (A:Nat->Bool):Int:=sumR (fun e=>if A (g (2*e))=true∧A (g (2*e+1))=true then 1 else 0) E
def chA (n:Nat) (D:Nat->Int) (A:Nat->Bool):Int:=sumR (fun v=>if A v=true then D v else 0) n
def C4l (E n:Nat) (g:Nat->Nat) (A:Nat->Bool):Prop:= ∀B:Nat->Bool,(∃v,v<n∧A v=true∧B v=true)->(∃v,v<n∧A v=true∧B v=false)-> ∃f,f<E∧A (g (2*f))=true∧A (g (2*f+1))=true∧B (g (2*f))≠B (g (2*f+1))
theorem B6N (A B:Nat->Bool):B1r n A=B1r n (fun v=>A v&&B v)+B1r n fun v=>A v&& !B v:=by
 unfold B1r;rw [<-A1A]; exact A0w fun v _=>by
  show (if A v=true then (1:Int) else 0)=(if (A v&&B v)=true then 1 else 0)+(if (A v&& !B v)=true then 1 else 0);cases A v<;>cases B v<;>simp
theorem B9K (D:Nat->Int) (A B:Nat->Bool):chA n D A=chA n D (fun v=>A v&&B v)+chA n D fun v=>A v&& !B v:=by
 unfold chA;rw [<-A1A]; exact A0w fun v _=>by
  show (if A v=true then D v else 0)=(if (A v&&B v)=true then D v else 0)+(if (A v&& !B v)=true then D v else 0);cases A v<;>cases B v<;>simp
theorem B1h {A:Nat->Bool} (h: ∃v,v<n∧A v=true):1≤B1r n A:=by
 obtain ⟨v,hv,h⟩:=h;have:=A8U (f:=fun v=>if A v=true then (1:Int) else 0) (n:=n) (fun x _=>by split<;>omega) hv;rw [if_pos h] at this; exact this
theorem C2c {D:Nat->Int} (hdeg:sumR D n=E-n+1) (h: ∀A:Nat->Bool,(∃v,v<n∧A v=true)->C4l E n g A->inE E g A-B1r n A+1≤chA n D A):BrkD E n g D:=by
 refine ⟨hdeg,?_⟩;have key: ∀(k:Nat) (A:Nat->Bool),B1r n A≤k->(∃v,v<n∧A v=true)->inE E g A-B1r n A+1≤chA n D A:=by
  intro k
  induction k with
  | zero=>intro A hk hA; have:=B1h hA; omega
  | succ k ih=>
   intro A hk hA;by_cases hc:C4l E n g A
   ·exact h A hA hc
   ·obtain ⟨B,h1,h2,h3⟩: ∃B:Nat->Bool,(∃v,v<n∧A v=true∧B v=true)∧(∃v,v<n∧A v=true∧B v=false)∧ ∀f,f<E->A (g (2*f))=true->A (g (2*f+1))=true->B (g (2*f))=B (g (2*f+1)):=by
     refine XZ fun hno=>hc fun B q1 q2=>XZ fun q3=>hno ⟨B,q1,q2,fun f hf a1 a2=>XZ fun q4=>q3 ⟨f,hf,a1,a2,q4⟩⟩
    obtain ⟨v1,hv1,a1,b1⟩:=h1;obtain ⟨v2,hv2,a2,b2⟩:=h2;have s:=B6N (n:=n) A B;have c:=B9K (n:=n) D A B;have p1:=B1h (n:=n) (A:=fun v=>A v&&B v) ⟨v1,hv1,by rw [a1,b1]; rfl⟩;have p2:=B1h (n:=n) (A:=fun v=>A v&& !B v) ⟨v2,hv2,by rw [a2,b2]; rfl⟩;have i1:=ih (fun v=>A v&&B v) (by omega) ⟨v1,hv1,by rw [a1,b1]; rfl⟩;have i2:=ih (fun v=>A v&& !B v) (by omega) ⟨v2,hv2,by rw [a2,b2]; rfl⟩;have e:inE E g A=inE E g (fun v=>A v&&B v)+inE E g fun v=>A v&& !B v:=by
     unfold inE;rw [<-A1A];refine A0w fun f hf=> ?_;have:=h3 f hf;show (if A (g (2*f))=true∧A (g (2*f+1))=true then (1:Int) else 0)=(if (A (g (2*f))&&B (g (2*f)))=true∧(A (g (2*f+1))&&B (g (2*f+1)))=true then 1 else 0)+(if (A (g (2*f))&& !B (g (2*f)))=true∧(A (g (2*f+1))&& !B (g (2*f+1)))=true then 1 else 0);by_cases hx:A (g (2*f))=true
     ·by_cases hy:A (g (2*f+1))=true
      ·rw [this hx hy,hx,hy]; cases B (g (2*f+1))<;>decide
      ·have hy:A (g (2*f+1))=false:=by simpa using hy
       rw [hx,hy]; simp
     ·have hx:A (g (2*f))=false:=by simpa using hx
      rw [hx]; simp
    omega
 intro A hA;exact key (B1r n A).toNat A (Int.self_le_toNat _) hA
def C4G (E:Nat) (g c:Nat->Nat) (t:Nat->Bool) (v:Nat):Int:=sumR (fun e=>if t e=false∧g (c e)=v then 1 else 0) E
theorem B9L {c:Nat->Nat} (hc: ∀e,e<E->c e<2*E) (hg: ∀x,x<2*E->g x<n) (A:Nat->Bool):sumR (fun v=>if A v=true then C4G E g c t v else 0) n=sumR (fun e=>if t e=false∧A (g (c e))=true then 1 else 0) E:=by
 unfold C4G;have e1:sumR (fun v=>if A v=true then sumR (fun e=>if t e=false∧g (c e)=v then 1 else 0) E else 0) n=sumR (fun v=>sumR (fun e=>if A v=true then (if t e=false∧g (c e)=v then 1 else 0) else 0) E) n:=A0w fun v _=>by
  split
  ·rfl
  ·rw [A1x fun _ _=>rfl]
 rw [e1,B2f];refine A0w fun e he=> ?_;rw [A0w (g:=fun v=>if v=g (c e) then (if t e=false∧A (g (c e))=true then 1 else 0) else 0) fun v _=> ?_,A2N _ _ (hg _ (hc e he))];by_cases h:v=g (c e)
 ·subst h; rw [if_pos rfl];cases t e<;>cases A (g (c e))<;>simp
 ·rw [if_neg h]; split
  ·exact if_neg fun q=>h q.2.symm
  ·rfl
theorem C4m {c:Nat->Nat} (hc: ∀e,e<E->c e=2*e∨c e=2*e+1) (hg: ∀x,x<2*E->g x<n) (hT:STree E n g t):BrkD E n g (C4G E g c t):=by
 have hc2: ∀e,e<E->c e<2*E:=fun e he=>by rcases hc e he with q | q<;>omega
 refine ⟨?_,fun A hA=> ?_⟩
 ·have:=B9L (t:=t) hc2 hg fun _=>true;have e:sumR (fun v=>if (fun _=>true) v=true then C4G E g c t v else 0) n=sumR (C4G E g c t) n:=A0w fun v _=>if_pos rfl;rw [e] at this;rw [this,A0w (g:=fun e=>1-if t e=true then 1 else 0) fun e _=>by cases t e<;>rfl,B0T,A5q,hT.tot]; omega
 ·rw [B9L hc2 hg];have h1:=hT.few A hA;have h2:sumR (fun e=>if A (g (2*e))=true∧A (g (2*e+1))=true then 1 else 0) E-sumR (fun e=>if t e=true∧A (g (2*e))=true∧A (g (2*e+1))=true then 1 else 0) E≤sumR (fun e=>if t e=false∧A (g (c e))=true then 1 else 0) E:=by
   rw [<-B0T];refine B38 fun e he=> ?_;rcases hc e he with q | q<;>rw [q]<;>cases t e<;>cases A (g (2*e))<;>cases A (g (2*e+1))<;>decide
  omega
end
structure FewF (g:G):Prop where
 es:g.es.length≤40
 sz:checkG g=0->g.n≤6∧(endsL g.es).length≤9
section
variable {n:Nat} {M:Nat->Nat->Int}
structure GI (n:Nat) (M:Nat->Nat->Int) (d0:Nat->Int) (U C:Int) (s:Nat->Int) (k:Nat) (d:List Int) (b:List Bool):Prop where
 dl:d.length=n
 bl:b.length=n
 s0: ∀v,0≤s v
 led: ∀v,v<n->d.getD v 0=d0 v-lap n M (fun u=> -s u) v
 mark: ∀v,v<n->b.getD v false=decide (0<s v)
 sum:sumR s n=k
 top: ∀v,v<n->d.getD v 0≤U
 least: ∀t:Nat->Int,(∀u,0≤t u)->(∀v,v<n->0≤d0 v-lap n M (fun u=> -t u) v)-> ∀v,v<n->s v≤t v
 few:(k:Int)≤C+1
end
end Go.Proofs.YtdbdfkohpjefjaaGreat
