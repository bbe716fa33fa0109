/- A part of the proof. -/
import Derived.Test.YtdbdfkohpjefjaaGreatPart29
set_option linter.all false
set_option maxHeartbeats 4000000
set_option maxRecDepth 100000
namespace Go.Proofs.YtdbdfkohpjefjaaGreat
open Go.Sp
def jnB (es:List E) (R:List Bool) (v:Nat):Int:=joinL (fun u=>R.getD u.toNat false) (lnkL es v)
def C3z (es:List E) (d:List Int) (R:List Bool) (v:Nat):Bool:= !R.getD v false&&decide (d.getD v 0<jnB es R v)
def A29 (es:List E) (d:List Int) (R:List Bool):Nat->List Bool×Bool
 | 0=>(R,false)
 | k+1=>if C3z es d (A29 es d R k).1 k=true then ((A29 es d R k).1.set k true,true) else A29 es d R k
theorem A6Q (es:List E) (d:List Int) (R:List Bool) (k:Nat):A29 es d R (k+1)=if C3z es d (A29 es d R k).1 k=true then ((A29 es d R k).1.set k true,true) else A29 es d R k:=rfl
structure Burn (es:List E) (d:List Int) (q:Nat) (R:List Bool) (L:List Nat):Prop where
 nd:L.Nodup
 mem: ∀v,R.getD v false=true↔v∈L
 hd:L[0]? =some q
 ord: ∀i v,1≤i->L[i]? =some v->d.getD v 0<joinL (fun u=>decide (u.toNat∈L.take i)) (lnkL es v)
def C5h (es:List E) (d:List Int) (q:Nat) (R:List Bool):Prop:= ∃L,Burn es d q R L
theorem A4E (es:List E) (d:List Int) (R:List Bool): ∀k,(A29 es d R k).1.length=R.length
 | 0=>rfl
 | k+1=>by
  rw [A6Q];split
  ·simp only [Yx]; exact A4E es d R k
  ·exact A4E es d R k
def C2S (R:List Bool):Nat:=R.countP fun b=> !b
theorem B43: ∀{R:List Bool} {k:Nat},R[k]? =some false->C2S (R.set k true)+1=C2S R
 | [],k,h=>by simp at h
 | b::R,0,h=>by simp at h; subst h; simp [C2S]
 | b::R,k+1,h=>by
  have:=B43 (R:=R) (k:=k) (by simpa using h);unfold C2S at this ⊢;simp only [List.set_cons_succ,Qz6];omega
theorem B2c (es:List E) (d:List Int) (R:List Bool): ∀k,k≤R.length->C2S (A29 es d R k).1+(if (A29 es d R k).2=true then 1 else 0)≤C2S R∧((A29 es d R k).2=false->(A29 es d R k).1=R∧ ∀v,v<k->C3z es d R v=false)
 | 0,_=>⟨by simp [A29],fun _=>⟨rfl,fun v hv=>by omega⟩⟩
 | k+1,hk=>by
  obtain ⟨h1,h2⟩:=B2c es d R k (by omega);rw [A6Q];split
  ·rename_i hm;refine ⟨?_,fun h=>by cases h⟩;have hm2:=hm;unfold C3z at hm2;simp only [Zq,YV,decide_eq_true_eq] at hm2;have:=B43 (R:=(A29 es d R k).1) (k:=k) (by rw [A6l (by rw [A4E]; omega),hm2.1]);simp only [if_true];split at h1<;>omega
  ·rename_i hm;rw [Qq5] at hm;refine ⟨h1,fun h=> ?_⟩;obtain ⟨e,h3⟩:=h2 h;refine ⟨e,fun v hv=> ?_⟩;by_cases hvk:v=k
   ·subst hvk; rw [e] at hm; exact hm
   ·exact h3 v (by omega)
def A6o (R:List Bool) (k:Nat):Bool:=(List.range k).any fun v=> !R.getD v false
def B0W (R:List Bool) (n k:Nat):List Bool:=(List.range n).map fun v=>decide (v<k)&& !R.getD v false
theorem A79 (R:List Bool) (n k:Nat):(B0W R n k).length=n:=by simp [B0W]
theorem B44 (R:List Bool) (n k i:Nat):(B0W R n k)[i]? =if i<n then some (decide (i<k)&& !R.getD i false) else none:=by
 unfold B0W;rw [QY];by_cases h:i<n
 ·rw [if_pos h,Yw h]; rfl
 ·rw [if_neg h,QV (by simpa using h)]; rfl
theorem C0U (R:List Bool) {n k:Nat} (hk:k<n):(B0W R n k).set k (!R.getD k false)=B0W R n (k+1):=by
 apply XY;intro i;rw [Qw1,A79,B44,B44];by_cases e:k=i
 ·subst e;rw [if_pos rfl,if_pos hk,if_pos hk,decide_eq_true (show k<k+1 by omega)]; rfl
 ·rw [if_neg e];by_cases h:i<n
  ·rw [if_pos h,if_pos h,decide_eq_decide.2 (show i<k↔i<k+1 by omega)]
  ·rw [if_neg h,if_neg h]
theorem B5W (R:List Bool) (k:Nat):A6o R (k+1)=(A6o R k|| !R.getD k false):=by
 unfold A6o; rw [Ww,List.any_append]; simp
theorem C0V (R:List Bool):(bC R).mapM A0a=some (R.map Tree.bool):=by
 induction R with
 | nil=>rfl
 | cons b R ih=>
  unfold bC at ih ⊢;rw [Xy,Jw,ih]; rfl
theorem C2T {R:List Bool} {r:List Tree} (h:r∈A4f R):r.length=1:=by
 unfold A4f at h;obtain ⟨b,_,rfl⟩:=Xq.1 h; rfl
theorem B8D (R:List Bool) (i:Nat) (r:List Tree) (m:Nat) (x:Tree) (h1:(A4f R)[i]? =some r) (h2:r[m]? =some x):(R.map Tree.bool)[i*1+m]? =some x:=by
 unfold A4f at h1;rw [QY] at h1;obtain ⟨b,hb,rfl⟩:=Option.map_eq_some_iff.1 h1;cases m with
 | zero=>simp at h2; subst h2; rw [Yz,Nat.add_zero,QY,hb]; rfl
 | succ m=>simp at h2
inductive BEnd (es:List E) (d:List Int) (n:Nat):List Bool->List Bool->Prop where
 | stop {R:List Bool}:(A29 es d R n).2=false->BEnd es d n R R
 | go {R B:List Bool}:(A29 es d R n).2=true->BEnd es d n (A29 es d R n).1 B->BEnd es d n R B
def A8E (n q:Nat):List Bool:=(List.replicate n false).set q true
theorem B31 (n q:Nat) (es:List E) (d s:List Int) (h1:1≤n) (h12:n≤12) (hq:q<n) (hd:d.length=n) (hs:s.length=n) (hl:es.length≤40) (hm: ∀e,e∈es->(0≤e.a∧e.a<n)∧(0≤e.b∧e.b<n)∧0≤e.m∧e.m≤50) (B:List Bool) (hB:BEnd es d n (A8E n q) B) (hBl:B.length=n):
  ∃X,ACallH Tryz.prog 163 [.box [.int .i64 (n:Int),.slice (A0f es) .none],.ro [.int .i64 (n:Int),.slice (A0f es)],.box (iC d),.box (iC s),.roC [.tree (.int .i64 (n:Int)),.tree (.slice (A0f es)),.tree (.int .i64 (q:Int)),.ref 2 1 0 n n,.ref 3 1 0 n n,.tree (.int .i64 0)]] [.c (.ptr 4 0)] ([.box [.int .i64 (n:Int),.slice (A0f es) .none],.ro [.int .i64 (n:Int),.slice (A0f es)],.box (iC d),.box (iC s),.roC [.tree (.int .i64 (n:Int)),.tree (.slice (A0f es)),.tree (.int .i64 (q:Int)),.ref 2 1 0 n n,.ref 3 1 0 n n,.tree (.int .i64 0)]]++X) (.tup [.c (.slice (A4f (B0W B n n)) .none),.c (.bool (A6o B n))]):=by
 refine ⟨[.box (bC B),.box [.ref 5 1 0 n n],.ro ((B0W B n n).map Tree.bool)],?_⟩;have hqI:(q:Int)<(n:Int):=by omega
 have hdn:d≠[]:=by intro e; rw [e] at hd; simp at hd; omega
 have hsn:s≠[]:=by intro e; rw [e] at hs; simp at hs; omega
 have hli:(A8E n q).length=n:=by simp [A8E]
 have hkb: ∀(v:Nat) u k,(u,k)∈lnkL es v-> ∃w:Nat,u=w∧w<n:=fun v u k hx=>by
  obtain ⟨e,he,e1,_,e2⟩:=A6M hx;have:=hm e he;simp only at e2;exact ⟨u.toNat,by omega,by omega⟩
 have hJ: ∀(R:List Bool) (v:Nat),R.length=n->v<n->ACallH Tryz.prog 161 [.box [.int .i64 (n:Int),.slice (A0f es) .none],.ro [.int .i64 (n:Int),.slice (A0f es)],.box (iC d),.box (iC s),.roC [.tree (.int .i64 (n:Int)),.tree (.slice (A0f es)),.tree (.int .i64 (q:Int)),.ref 2 1 0 n n,.ref 3 1 0 n n,.tree (.int .i64 0)],.box (bC R),.box [.ref 5 1 0 n n]] [.c (.ptr 4 0),.c (.int .i64 (v:Int)),.c (.fn 186 [.ptr 6 0])] [.box [.int .i64 (n:Int),.slice (A0f es) .none],.ro [.int .i64 (n:Int),.slice (A0f es)],.box (iC d),.box (iC s),.roC [.tree (.int .i64 (n:Int)),.tree (.slice (A0f es)),.tree (.int .i64 (q:Int)),.ref 2 1 0 n n,.ref 3 1 0 n n,.tree (.int .i64 0)],.box (bC R),.box [.ref 5 1 0 n n]] (.c (.int .i64 (jnB es R v))):=fun R v hR hv=>
  B8b n q es d s R hdn hsn (by intro e; rw [e] at hR; simp at hR; omega) (by omega) (fun e he=>by have:=hm e he; omega) v (by omega) _ _ fun X u k hx=>by
   obtain ⟨w,rfl,hw⟩:=hkb v u k hx;exact C4d n R hR rfl rfl w hw
 have hr0:=A6d (List.replicate n false) q true;have hrl:(List.replicate n false:List Bool).length=n:=by simp
 have hr0':(bC (List.replicate n false)).set q (.bool true)=bC (A8E n q):=hr0;simp only [List.cons_append,List.nil_append];refine ACallH.of_body Tryz.func163 rfl (by kernel_rfl) ?_;simp only [entry,Tryz.ntmps163,List.length_cons,List.length_nil,Nat.reduceAdd,Nat.reduceSub,List.replicate_succ,List.replicate_zero,List.cons_append,List.nil_append];refine zR (zc @hqI (zc @A38 (zc @hr0' (zc @hrl (zc @A1P (zc @Xk Qw8)))))) Qw8 Qw8 ?_;refine AWp.loopS (α:=(List Bool×Bool)) 85 (fun w=>[(0,.c (.ptr 4 0)),(4,.c (.ptr 6 0)),(5,.c (.fn 186 [.ptr 6 0])),(6,.c (.bool w.2))]) (fun w=>[.box [.int .i64 (n:Int),.slice (A0f es) .none],.ro [.int .i64 (n:Int),.slice (A0f es)],.box (iC d),.box (iC s),.roC [.tree (.int .i64 (n:Int)),.tree (.slice (A0f es)),.tree (.int .i64 (q:Int)),.ref 2 1 0 n n,.ref 3 1 0 n n,.tree (.int .i64 0)],.box (bC w.1),.box [.ref 5 1 0 n n]]) (fun w=>w.1.length=n∧(w.2=true->BEnd es d n w.1 B)∧(w.2=false->w.1=B)) (fun w=>2*C2S w.1+(if w.2=true then 1 else 0)) ((A8E n q,true)) (hk:=Weak.headL 7 85 [0,4,5,6] (zV3 @A1d @A0E @A0F)) (h0:=?_) (round:=fun w hI=>?_)
 ·exact ⟨hli,fun _=>hB,fun h=>by cases h⟩
 ·obtain ⟨R,ag⟩:=w;obtain ⟨hRl,hI1,hI2⟩:=hI;simp only at hRl hI1 hI2 ⊢;cases ag with
  | true=>
   have hE:=hI1 rfl;clear hI1 hI2;have hcnt:=B2c es d R n (by omega);refine zR Qw8 Qw8 Qw8 ?_;refine AWp.loopS (α:=Nat) 85 (fun k=>[(0,.c (.ptr 4 0)),(4,.c (.ptr 6 0)),(5,.c (.fn 186 [.ptr 6 0])),(6,.c (.bool (A29 es d R k).2)),(29,.c (.int .i64 (n:Int))),(30,.c (.int .i64 (k:Int)))]) (fun k=>[.box [.int .i64 (n:Int),.slice (A0f es) .none],.ro [.int .i64 (n:Int),.slice (A0f es)],.box (iC d),.box (iC s),.roC [.tree (.int .i64 (n:Int)),.tree (.slice (A0f es)),.tree (.int .i64 (q:Int)),.ref 2 1 0 n n,.ref 3 1 0 n n,.tree (.int .i64 0)],.box (bC (A29 es d R k).1),.box [.ref 5 1 0 n n]]) (fun k=>k≤n) (fun k=>n-k) (0) (hk:=Weak.headL 7 85 [0,4,5,6,29,30] (zV3 @A1d @A0E @A0F)) (h0:=?_) (round:=fun k hI=>?_)
   ·exact Xj _
   ·have hk:k≤n:=hI;clear hI;by_cases hkl:k<n
    ·have hkI:(k:Int)<(n:Int):=by omega
     have hps:=A6Q es d R k;have hpl:=A4E es d R k;rw [hRl] at hpl;have hJk:=hJ (A29 es d R k).1 k hpl hkl;generalize A29 es d R k=p at*;generalize hp1:A29 es d R (k+1)=p1 at*;obtain ⟨Rk,ak⟩:=p;simp only at hpl hJk hps ⊢;have hg:=A9G (A6l (R:=Rk) (i:=k) (by omega));have hds:=A5Y (A1j (d:=d) (i:=k) (by omega));have hst:=A6d Rk k true;unfold C3z at hps;generalize d.getD k 0=dv at*;generalize jnB es Rk k=jv at*;cases hbk:Rk.getD k false with
     | true=>
      rw [hbk] at hps hg;simp only [JJ,Qq3] at hps;rw [if_neg (by simp)] at hps;refine zR (zc @hkI (zc @hg (zc @A1P (zc @hpl (zc @Xk Qw8))))) Qw8 Qw8 ?_;refine ⟨k+1,Weak.headF 7 85 [0,4,5,6,29,30] (zc @hp1 (zc @hps Qw8)) (zV3 @A1d @A0E @A0F),?_,?_⟩
      ·exact hkl
      ·omega
     | false=>
      rw [hbk] at hps hg;simp only [Qq2,Jy,decide_eq_true_eq] at hps;by_cases hlt:dv<jv
      ·rw [if_pos hlt] at hps;refine zJ Qw8 (zc @hkI (zc @hg (zc @hds (zc @hlt (zc @hst (zc @A1P (zc @A11 (zc @hd (zc @hpl (zc @Xk Qw8)))))))))) Qw8 (zc hJk Qw8) Qw8 ?_;refine ⟨k+1,Weak.headF 7 85 [0,4,5,6,29,30] (zc @hp1 (zc @hps Qw8)) (zV3 @A1d @A0E @A0F),?_,?_⟩
       ·exact hkl
       ·omega
      ·rw [if_neg hlt] at hps;refine zJ Qw8 (zc @hkI (zc @hg (zc @hds (zc @hlt (zc @A1P (zc @A11 (zc @hd (zc @hpl (zc @Xk Qw8))))))))) Qw8 (zc hJk Qw8) Qw8 ?_;refine ⟨k+1,Weak.headF 7 85 [0,4,5,6,29,30] (zc @hp1 (zc @hps Qw8)) (zV3 @A1d @A0E @A0F),?_,?_⟩
       ·exact hkl
       ·omega
    ·have hnl: ¬(k:Int)<(n:Int):=by omega
     have ek:k=n:=by omega
     have hpl:=A4E es d R n;rw [ek] at*;refine zR (zc @hnl Qw8) Qw8 Qw8 ?_;refine ⟨A29 es d R n,Weak.headN 7 85 [0,4,5,6] (zV3 @A1d @A0E @A0F),?_,?_⟩
     ·refine ⟨hpl.trans hRl,fun h=> ?_,fun h=> ?_⟩
      ·cases hE with
       | stop hp=>rw [hp] at h; cases h
       | go hp hE'=>exact hE'
      ·cases hE with
       | stop hp=>exact (hcnt.2 hp).1
       | go hp hE'=>rw [hp] at h; cases h
     ·have h1:=hcnt.1;cases hp2:(A29 es d R n).2<;>simp [hp2] at h1 ⊢<;>omega
  | false=>
   have hRB:=hI2 rfl;subst hRB;clear hI1 hI2 hB;have hn0:B0W R n 0=List.replicate n false:=by
    apply Qz5
    ·simp [B0W]
    ·intro i h1 h2; simp [B0W]
   have hs0:A6o R 0=false:=rfl;refine zR (zc @A38 (zc @A1P (zc @hRl Qw8))) Qw8 Qw8 ?_;rw [<-hn0];refine AWp.loopS (α:=Nat) 85 (fun k=>[(0,.c (.ptr 4 0)),(4,.c (.ptr 6 0)),(8,.c (.ref 7 1 0 n n)),(9,.c (.bool (A6o R k))),(63,.c (.int .i64 (n:Int))),(64,.c (.int .i64 (k:Int)))]) (fun k=>[.box [.int .i64 (n:Int),.slice (A0f es) .none],.ro [.int .i64 (n:Int),.slice (A0f es)],.box (iC d),.box (iC s),.roC [.tree (.int .i64 (n:Int)),.tree (.slice (A0f es)),.tree (.int .i64 (q:Int)),.ref 2 1 0 n n,.ref 3 1 0 n n,.tree (.int .i64 0)],.box (bC R),.box [.ref 5 1 0 n n],.box (bC (B0W R n k))]) (fun k=>k≤n) (fun k=>n-k) (0) (hk:=Weak.headL 8 85 [0,4,8,9,63,64] (zV3 @A1d @A0E @A0F)) (h0:=?_) (round:=fun k hI=>?_)
   ·exact Xj _
   ·have hk:k≤n:=hI;clear hI;by_cases hkl:k<n
    ·have hkI:(k:Int)<(n:Int):=by omega
     have hg:=A9G (A6l (R:=R) (i:=k) (by omega));have hns:=C0U R hkl;have hnl:=A79 R n k;have hnl1:=A79 R n (k+1);have hso:=B5W R k;generalize R.getD k false=b at*;have hbs:=A6d (B0W R n k) k (!b);rw [hns] at hbs;have hg2:(bC (B0W R n (k+1)))[k]? =some (.bool (!b)):=by rw [<-hbs]; exact QW (by rw [A1P,hnl]; exact hkl)
     generalize hn1:B0W R n (k+1)=N1 at*;generalize B0W R n k=N0 at*;generalize hso1:A6o R (k+1)=S1 at*;cases hS0:A6o R k with
     | true=>
      rw [hS0,Bool.true_or] at hso;refine zR (zc @hkI (zc @hg (zc @hg2 (zc @hbs (zc @A1P (zc @hRl (zc @hnl (zc @hnl1 (zc @Xk Qw8))))))))) Qw8 Qw8 ?_;refine ⟨k+1,Weak.headF 8 85 [0,4,8,9,63,64] (zc @hn1 (zc @hso1 (zc @hso Qw8))) (zV3 @A1d @A0E @A0F),?_,?_⟩
      ·exact hkl
      ·omega
     | false=>
      rw [hS0,JV] at hso;refine zR (zc @hkI (zc @hg (zc @hg2 (zc @hbs (zc @A1P (zc @hRl (zc @hnl (zc @hnl1 (zc @Xk Qw8))))))))) Qw8 Qw8 ?_;refine ⟨k+1,Weak.headF 8 85 [0,4,8,9,63,64] (zc @hn1 (zc @hso1 (zc @hso Qw8))) (zV3 @A1d @A0E @A0F),?_,?_⟩
      ·exact hkl
      ·omega
    ·have hnl: ¬(k:Int)<(n:Int):=by omega
     have ek:k=n:=by omega
     have hln:=A79 R n n;rw [ek];rw [ek] at hnl;refine zJ (stop 21) (zc @hnl Qw8) Qw8 Qw8 Qw8 ?_;refine AWp.freezeR 8 7 1 n n rfl rfl (C0V _) (A4f (B0W R n n)) (by rw [A49,hln]) (QQ _) (fun r hr=>C2T hr) (B8D _) ?_;refine zR Qw8 Qw8 Qw8 ?_;simp [A4y,A1S,A0t,A1R,Tryz.results163]
abbrev BS3:=List Int×List Nat×Nat
def stepD (v:Nat) (s:BS3) (x:Int×Int):BS3:=if s.1.getD x.1.toNat 0<0 then (s.1.set x.1.toNat (s.1.getD v 0+1),s.2.1++[x.1.toNat],s.2.2+1) else s
def B6x (es:List E) (v:Nat) (s:BS3):BS3:=(lnkL es v).foldl (stepD v) s
def cntNeg (o:List Int):Nat:=o.countP fun x=>decide (x<0)
theorem A5d: ∀{o:List Int} {u:Nat} {x y:Int},o[u]? =some y->y<0->0≤x->cntNeg (o.set u x)+1=cntNeg o
 | [],u,x,y,h,_,_=>by simp at h
 | a::o,0,x,y,h,h1,h2=>by
  simp at h; subst h;unfold cntNeg;simp only [List.set_cons_zero,Qz6];rw [if_pos (decide_eq_true h1),if_neg (by simpa using h2)]
 | a::o,u+1,x,y,h,h1,h2=>by
  have:=A5d (o:=o) (u:=u) (x:=x) (y:=y) (by simpa using h) h1 h2;unfold cntNeg at this ⊢;simp only [List.set_cons_succ,Qz6];omega
theorem A4F (o:List Int) (k:Nat) (x:Int) (v:Nat) (hk:k<o.length):(o.set k x).getD v 0=if v=k then x else o.getD v 0:=by
 rw [Qz,Qw1];by_cases e:k=v
 ·subst e; rw [if_pos rfl,if_pos hk,if_pos rfl]; rfl
 ·rw [if_neg e,if_neg (fun h=>e h.symm),Qz]
theorem C2U {es:List E} {v:Int} {x:Int×Int} (h:x∈lnkL es v):(v,x.2)∈lnkL es x.1:=by
 obtain ⟨e,he,h1,h2,h3⟩:=A6M h;unfold lnkL;rw [List.mem_filterMap];refine ⟨e,he,?_⟩;unfold C0k;rcases h3 with ⟨h3,h4⟩ | ⟨h3,h4⟩
 ·rw [if_pos ⟨h2,.inr h4.symm⟩,h1,h4,<-h3]; congr 2; omega
 ·rw [if_pos ⟨h2,.inl h4.symm⟩,h1,h4,<-h3]; congr 2; omega
structure BFq (es:List E) (n q:Nat) (o:List Int) (Q:List Nat):Prop where
 len:o.length=n
 q0:o.getD q 0=0
 bnd: ∀x,x<n-> -1≤o.getD x 0∧o.getD x 0+cntNeg o≤n-1
 qm: ∀a,a∈Q->a<n∧0≤o.getD a 0
 srt:Q.Pairwise fun a b=>o.getD a 0≤o.getD b 0
 gap: ∀a b,a∈Q->b∈Q->o.getD b 0≤o.getD a 0+1
 proc: ∀x,x<n->0≤o.getD x 0->x∉Q->(∀a,a∈Q->o.getD x 0≤o.getD a 0)∧ ∀y,y∈lnkL es x->0≤o.getD y.1.toNat 0∧o.getD y.1.toNat 0≤o.getD x 0+1
 par: ∀x,x<n->x≠q->0≤o.getD x 0-> ∃y,y∈lnkL es x∧0≤o.getD y.1.toNat 0∧o.getD y.1.toNat 0+1=o.getD x 0
structure PBq (es:List E) (n q v:Nat) (l:List (Int×Int)) (o:List Int) (Q:List Nat):Prop where
 len:o.length=n
 q0:o.getD q 0=0
 bnd: ∀x,x<n-> -1≤o.getD x 0∧o.getD x 0+cntNeg o≤n-1
 vv:v<n∧0≤o.getD v 0
 qm: ∀a,a∈Q->a<n∧o.getD v 0≤o.getD a 0∧o.getD a 0≤o.getD v 0+1
 srt:Q.Pairwise fun a b=>o.getD a 0≤o.getD b 0
 proc: ∀x,x<n->x≠v->0≤o.getD x 0->x∉Q->o.getD x 0≤o.getD v 0∧ ∀y,y∈lnkL es x->0≤o.getD y.1.toNat 0∧o.getD y.1.toNat 0≤o.getD x 0+1
 par: ∀x,x<n->x≠q->0≤o.getD x 0-> ∃y,y∈lnkL es x∧0≤o.getD y.1.toNat 0∧o.getD y.1.toNat 0+1=o.getD x 0
 dn: ∀y,y∈l->0≤o.getD y.1.toNat 0∧o.getD y.1.toNat 0≤o.getD v 0+1
section
variable {es:List E} {n q v:Nat}
theorem BFq.pop {o:List Int} {Q:List Nat} (h:BFq es n q o (v::Q)):PBq es n q v [] o Q:=by
 have hv:=h.qm v (by simp);have hs:=WX.1 h.srt;refine ⟨h.len,h.q0,h.bnd,hv,fun a ha=>⟨(h.qm a (by simp [ha])).1,hs.1 a ha,h.gap v a (by simp) (by simp [ha])⟩,hs.2,fun x hx hxv h0 hxQ=> ?_,h.par,by simp⟩;have:=h.proc x hx h0 (by simp [hxv,hxQ]);exact ⟨this.1 v (by simp),this.2⟩
theorem PBq.step {l:List (Int×Int)} {s:BS3} (h:PBq es n q v l s.1 s.2.1) {x:Int×Int} (hx:x∈lnkL es v) (hxn:0≤x.1∧x.1<n):PBq es n q v (l++[x]) (stepD v s x).1 (stepD v s x).2.1:=by
 obtain ⟨o,Q,p⟩:=s;obtain ⟨u,k⟩:=x;simp only at h hxn;obtain ⟨w,rfl⟩:=XV hxn.1;have hw:w<n:=by omega
 obtain ⟨e,he,_,hne,hab⟩:=A6M hx;have hwv:w≠v:=by rintro rfl; simp only at hab; omega
 unfold stepD;simp only [Int.toNat_natCast];split
 ·rename_i hneg;have hg:=fun y=>A4F o w (o.getD v 0+1) y (by rw [h.len]; exact hw);have hv0:=h.vv.2;have hgv:(o.set w (o.getD v 0+1)).getD v 0=o.getD v 0:=by rw [hg,if_neg (Ne.symm hwv)]
  have hgo: ∀y,0≤o.getD y 0->(o.set w (o.getD v 0+1)).getD y 0=o.getD y 0:=fun y hy=>by
   rw [hg,if_neg]; rintro rfl; omega
  have hcn:=A5d (o:=o) (u:=w) (x:=o.getD v 0+1) (y:=o.getD w 0) (A1j (by rw [h.len]; exact hw)) hneg (by omega);have hqw:q≠w:=by rintro rfl; have:=h.q0; omega
  have hQ0: ∀a,a∈Q->0≤o.getD a 0:=fun a ha=>by have:=h.qm a ha; omega
  show PBq es n q v _ (o.set w (o.getD v 0+1)) (Q++[w]);refine ⟨by rw [Yx]; exact h.len,by rw [hg,if_neg hqw]; exact h.q0,fun x hx=> ?_,⟨h.vv.1,by rw [hgv]; exact hv0⟩,fun a ha=> ?_,?_,fun x hxn hxv h0 hxQ=> ?_,fun x hxn hxq h0=> ?_,fun y hy=> ?_⟩
  ·have h1:=h.bnd x hx;have h2:=h.bnd v h.vv.1;rw [hg];by_cases e:x=w
   ·rw [if_pos e]; omega
   ·rw [if_neg e]; omega
  ·rw [hgv];rcases XZ.1 ha with ha | ha
   ·rw [hgo a (hQ0 a ha)]; exact h.qm a ha
   ·rw [XJ.1 ha,hg,if_pos rfl]; exact ⟨hw,by omega,Qz7 _⟩
  ·rw [Qq8];refine ⟨h.srt.imp_of_mem fun {a b} ha hb hab=>by rw [hgo a (hQ0 a ha),hgo b (hQ0 b hb)]; exact hab,by simp,fun a ha b hb=> ?_⟩;rw [XJ.1 hb,hgo a (hQ0 a ha),hg w,if_pos rfl];exact (h.qm a ha).2.2
  ·have hxw:x≠w:=fun e=>hxQ (by rw [e]; simp);rw [hg,if_neg hxw] at h0 ⊢;rw [hgv];obtain ⟨q1,q2⟩:=h.proc x hxn hxv h0 fun hm=>hxQ (Qj4 _ hm);refine ⟨q1,fun y hy=> ?_⟩;have:=q2 y hy;rw [hgo _ this.1]; exact this
  ·by_cases hxw:x=w
   ·subst hxw;refine ⟨((v:Nat),k),C2U hx,?_,?_⟩
    ·simp only [Int.toNat_natCast]; rw [hgv]; exact hv0
    ·simp only [Int.toNat_natCast]; rw [hgv,hg,if_pos rfl]
   ·rw [hg,if_neg hxw] at h0 ⊢;obtain ⟨y,y1,y2,y3⟩:=h.par x hxn hxq h0;exact ⟨y,y1,by rw [hgo _ y2]; exact y2,by rw [hgo _ y2]; exact y3⟩
  ·rw [hgv];rcases XZ.1 hy with hy | hy
   ·have:=h.dn y hy;rw [hgo _ this.1]; exact this
   ·rw [XJ.1 hy];simp only [Int.toNat_natCast];rw [hg,if_pos rfl]; omega
 ·rename_i hneg;refine { h with dn:=fun y hy=> ?_ };rcases XZ.1 hy with hy | hy
  ·exact h.dn y hy
  ·rw [XJ.1 hy];simp only [Int.toNat_natCast];refine ⟨by omega,?_⟩;by_cases hm:w∈Q
   ·exact (h.qm w hm).2.2
   ·have:=(h.proc w hw hwv (by omega) hm).1; omega
theorem PBq.all {s:BS3} (hn: ∀x,x∈lnkL es v->0≤x.1∧x.1<n) (h:PBq es n q v [] s.1 s.2.1): ∀j,j≤(lnkL es v).length->PBq es n q v ((lnkL es v).take j) (((lnkL es v).take j).foldl (stepD v) s).1 (((lnkL es v).take j).foldl (stepD v) s).2.1
 | 0,_=>h
 | j+1,hj=>by
  have hlt:j<(lnkL es v).length:=by omega
  have hm:=Xv hlt;have ih:=PBq.all hn h j (by omega);rw [XX hlt,Qj3];exact ih.step hm (hn _ hm)
theorem PBq.done {o:List Int} {Q:List Nat} (h:PBq es n q v (lnkL es v) o Q):BFq es n q o Q:=by
 refine ⟨h.len,h.q0,h.bnd,fun a ha=>⟨(h.qm a ha).1,by have:=h.qm a ha; have:=h.vv; omega⟩,h.srt,fun a b ha hb=>by have:=h.qm a ha; have:=h.qm b hb; omega,fun x hx h0 hxQ=> ?_,h.par⟩;by_cases e:x=v
 ·subst e; exact ⟨fun a ha=>(h.qm a ha).2.1,h.dn⟩
 ·have:=h.proc x hx e h0 hxQ;exact ⟨fun a ha=>Int.le_trans this.1 (h.qm a ha).2.1,this.2⟩
theorem B8E (v:Nat) (s:BS3) (x:Int×Int) (h:0≤s.1.getD v 0) (hx:x.1.toNat<s.1.length):2*cntNeg (stepD v s x).1+(stepD v s x).2.1.length≤2*cntNeg s.1+s.2.1.length:=by
 unfold stepD;split
 ·rename_i hneg;have:=A5d (o:=s.1) (u:=x.1.toNat) (x:=s.1.getD v 0+1) (A1j hx) hneg (by omega);simp only [Xw,List.length_singleton]; omega
 ·exact QQ _
theorem PBq.cnt {s:BS3} (hn: ∀x,x∈lnkL es v->0≤x.1∧x.1<n) (h:PBq es n q v [] s.1 s.2.1): ∀j,j≤(lnkL es v).length->2*cntNeg (((lnkL es v).take j).foldl (stepD v) s).1+(((lnkL es v).take j).foldl (stepD v) s).2.1.length≤2*cntNeg s.1+s.2.1.length
 | 0,_=>QQ _
 | j+1,hj=>by
  have hlt:j<(lnkL es v).length:=by omega
  have hm:=Xv hlt;have ih:=PBq.cnt hn h j (by omega);have hp:=h.all hn j (by omega);rw [XX hlt,Qj3];refine Yj (B8E v _ _ hp.vv.2 (by rw [hp.len]; have:=hn _ hm; omega)) ih
theorem B5X (v:Nat) (s:BS3) {j:Nat} {x:Int×Int} (h:(lnkL es v)[j]? =some x):((lnkL es v).take (j+1)).foldl (stepD v) s=stepD v (((lnkL es v).take j).foldl (stepD v) s) x:=by
 rw [take_snoc h,Qj3]; rfl
theorem B2d (v:Nat): ∀(l:List (Int×Int)) (s:BS3),(l.foldl (stepD v) s).1.length=s.1.length
 | [],_=>rfl
 | x::l,s=>by
  rw [List.foldl_cons,B2d v l];unfold stepD;split
  ·simp only [Yx]
  ·rfl
inductive DEnd (es:List E):BS3->List Int->Nat->Prop where
 | stop {o:List Int} {p:Nat}:DEnd es (o,[],p) o p
 | go {o B:List Int} {v:Nat} {Q:List Nat} {p pB:Nat}:DEnd es (B6x es v (o,Q,p)) B pB->DEnd es (o,v::Q,p) B pB
theorem C5A (hn: ∀(v:Nat) x,x∈lnkL es v->0≤x.1∧x.1<n): ∀(f:Nat) (s:BS3),2*cntNeg s.1+s.2.1.length≤f->BFq es n q s.1 s.2.1-> ∃B pB,DEnd es s B pB∧BFq es n q B []:=by
 intro f
 induction f with
 | zero=>
  rintro ⟨o,Q,p⟩ hc h;simp only at hc h;cases Q with
  | nil=>exact ⟨o,p,.stop,h⟩
  | cons v Q=>simp at hc
 | succ f ih=>
  rintro ⟨o,Q,p⟩ hc h;simp only at hc h;cases Q with
  | nil=>exact ⟨o,p,.stop,h⟩
  | cons v Q=>
   have hp:=h.pop;have hd:=PBq.all (s:=(o,Q,p)) (hn v) hp _ (QQ _);have hct:=PBq.cnt (s:=(o,Q,p)) (hn v) hp _ (QQ _);rw [Zw] at hd hct;obtain ⟨B,pB,b1,b2⟩:=ih (B6x es v (o,Q,p)) (by unfold B6x; simp only [List.length_cons] at hc; simp only at hct; omega) hd.done;exact ⟨B,pB,.go b1,b2⟩
end
def A7s (n q:Nat):List Int:=(List.replicate n (-1)).set q 0
theorem B5Y (n:Nat):cntNeg (List.replicate n (-1))=n:=by
 induction n with
 | zero=>rfl
 | succ n ih=>unfold cntNeg at ih ⊢; rw [List.replicate_succ,Qz6,ih]; simp
theorem B45 {es:List E} {n q:Nat} (hq:q<n):BFq es n q (A7s n q) [q]:=by
 have hrl:(List.replicate n (-1):List Int).length=n:=by simp
 have hg: ∀x,(A7s n q).getD x 0=if x=q then 0 else (List.replicate n (-1)).getD x 0:=fun x=>A4F _ q 0 x (by rw [hrl]; exact hq)
 have hr: ∀x,x<n->(List.replicate n (-1):List Int).getD x 0= -1:=fun x hx=>by
  rw [Qz,Qq9,if_pos hx]; rfl
 have hc:=A5d (o:=List.replicate n (-1)) (u:=q) (x:=0) (y:= -1) (by rw [Qq9,if_pos hq]) (by decide) (by decide);rw [B5Y] at hc;have hc':cntNeg (A7s n q)+1=n:=hc;have hneg: ∀x,x<n->0≤(A7s n q).getD x 0->x=q:=fun x hx h0=>by
  refine ZV fun e=> ?_;rw [hg,if_neg e,hr x hx] at h0; omega
 refine ⟨by simp [A7s],by rw [hg,if_pos rfl],fun x hx=> ?_,fun a ha=> ?_,by simp,fun a b ha hb=> ?_,fun x hx h0 hxQ=> ?_,fun x hx hxq h0=> ?_⟩
 ·rw [hg];by_cases e:x=q
  ·rw [if_pos e]; omega
  ·rw [if_neg e,hr x hx]; omega
 ·rw [XJ.1 ha,hg,if_pos rfl]; exact ⟨hq,Qz7 _⟩
 ·rw [XJ.1 ha,XJ.1 hb]; omega
 ·exact absurd (by rw [hneg x hx h0]; simp) hxQ
 ·exact absurd (hneg x hx h0) hxq
set_option maxHeartbeats 1000000
section
variable {n:Nat} {M:Nat->Nat->Int}
structure GI (n:Nat) (M:Nat->Nat->Int) (d0:Nat->Int) (U C:Int) (s:Nat->Int) (k:Nat) (d:List Int) (b:List Bool):Prop where
 dl:d.length=n
 bl:b.length=n
 s0: ∀v,0≤s v
 led: ∀v,v<n->d.getD v 0=d0 v-lap n M (fun u=> -s u) v
 mark: ∀v,v<n->b.getD v false=decide (0<s v)
 sum:sumR s n=k
 top: ∀v,v<n->d.getD v 0≤U
 least: ∀t:Nat->Int,(∀u,0≤t u)->(∀v,v<n->0≤d0 v-lap n M (fun u=> -t u) v)-> ∀v,v<n->s v≤t v
 few:(k:Int)≤C+1
end
end Go.Proofs.YtdbdfkohpjefjaaGreat
