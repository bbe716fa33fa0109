/- A part of the proof. -/
import Derived.Test.YtdbdfkohpjefjaaGreatPart24
import Derived.Test.YtdbdfkohpjefjaaGreatPart26
set_option linter.all false
set_option maxHeartbeats 4000000
set_option maxRecDepth 100000
namespace Go.Proofs.YtdbdfkohpjefjaaGreat
open Go.Sp
def jnB (es:List E) (R:List Bool) (v:Nat):Int:=joinL (fun u=>R.getD u.toNat false) (lnkL es v)
def C3b (es:List E) (d:List Int) (R:List Bool) (v:Nat):Bool:= !R.getD v false&&decide (d.getD v 0<jnB es R v)
def A23 (es:List E) (d:List Int) (R:List Bool):Nat->List Bool×Bool
 | 0=>(R,false)
 | k+1=>if C3b es d (A23 es d R k).1 k=true then ((A23 es d R k).1.set k true,true) else A23 es d R k
theorem A6P (es:List E) (d:List Int) (R:List Bool) (k:Nat):A23 es d R (k+1)=if C3b es d (A23 es d R k).1 k=true then ((A23 es d R k).1.set k true,true) else A23 es d R k:=rfl
structure Burn (es:List E) (d:List Int) (q:Nat) (R:List Bool) (L:List Nat):Prop where
 nd:L.Nodup
 mem: ∀v,R.getD v false=true↔v∈L
 hd:L[0]? =some q
 ord: ∀i v,1≤i->L[i]? =some v->d.getD v 0<joinL (fun u=>decide (u.toNat∈L.take i)) (lnkL es v)
def C4E (es:List E) (d:List Int) (q:Nat) (R:List Bool):Prop:= ∃L,Burn es d q R L
theorem A48 (es:List E) (d:List Int) (R:List Bool): ∀k,(A23 es d R k).1.length=R.length
 | 0=>rfl
 | k+1=>by
  rw [A6P];split
  ·simp only [Yz]; exact A48 es d R k
  ·exact A48 es d R k
def C29 (R:List Bool):Nat:=R.countP fun b=> !b
theorem B41: ∀{R:List Bool} {k:Nat},R[k]? =some false->C29 (R.set k true)+1=C29 R
 | [],k,h=>by simp at h
 | b::R,0,h=>by simp at h; subst h; simp [C29]
 | b::R,k+1,h=>by
  have:=B41 (R:=R) (k:=k) (by simpa using h);unfold C29 at this ⊢;simp only [List.set_cons_succ,Qz1];omega
theorem B1X (es:List E) (d:List Int) (R:List Bool): ∀k,k≤R.length->C29 (A23 es d R k).1+(if (A23 es d R k).2=true then 1 else 0)≤C29 R∧((A23 es d R k).2=false->(A23 es d R k).1=R∧ ∀v,v<k->C3b es d R v=false)
 | 0,_=>⟨by simp [A23],fun _=>⟨rfl,fun v hv=>by omega⟩⟩
 | k+1,hk=>by
  obtain ⟨h1,h2⟩:=B1X es d R k (by omega);rw [A6P];split
  ·rename_i hm;refine ⟨?_,fun h=>by cases h⟩;have hm2:=hm;unfold C3b at hm2;simp only [Zj,YW,decide_eq_true_eq] at hm2;have:=B41 (R:=(A23 es d R k).1) (k:=k) (by rw [A6m (by rw [A48]; omega),hm2.1]);simp only [if_true];split at h1<;>omega
  ·rename_i hm;rw [Qq1] at hm;refine ⟨h1,fun h=> ?_⟩;obtain ⟨e,h3⟩:=h2 h;refine ⟨e,fun v hv=> ?_⟩;by_cases hvk:v=k
   ·subst hvk; rw [e] at hm; exact hm
   ·exact h3 v (by omega)
def A6r (R:List Bool) (k:Nat):Bool:=(List.range k).any fun v=> !R.getD v false
def B0Q (R:List Bool) (n k:Nat):List Bool:=(List.range n).map fun v=>decide (v<k)&& !R.getD v false
theorem A7B (R:List Bool) (n k:Nat):(B0Q R n k).length=n:=by simp [B0Q]
theorem B42 (R:List Bool) (n k i:Nat):(B0Q R n k)[i]? =if i<n then some (decide (i<k)&& !R.getD i false) else none:=by
 unfold B0Q;rw [QY];by_cases h:i<n
 ·rw [if_pos h,Yw h]; rfl
 ·rw [if_neg h,QV (by simpa using h)]; rfl
theorem C0H (R:List Bool) {n k:Nat} (hk:k<n):(B0Q R n k).set k (!R.getD k false)=B0Q R n (k+1):=by
 apply XZ;intro i;rw [Qj5,A7B,B42,B42];by_cases e:k=i
 ·subst e;rw [if_pos rfl,if_pos hk,if_pos hk,decide_eq_true (show k<k+1 by omega)]; rfl
 ·rw [if_neg e];by_cases h:i<n
  ·rw [if_pos h,if_pos h,decide_eq_decide.2 (show i<k↔i<k+1 by omega)]
  ·rw [if_neg h,if_neg h]
theorem B5O (R:List Bool) (k:Nat):A6r R (k+1)=(A6r R k|| !R.getD k false):=by
 unfold A6r; rw [WZ,List.any_append]; simp
theorem C0I (R:List Bool):(bC R).mapM A0a=some (R.map Tree.bool):=by
 induction R with
 | nil=>rfl
 | cons b R ih=>
  unfold bC at ih ⊢;rw [Xy,Jj,ih]; rfl
theorem C2A {R:List Bool} {r:List Tree} (h:r∈A3Z R):r.length=1:=by
 unfold A3Z at h;obtain ⟨b,_,rfl⟩:=Xq.1 h; rfl
theorem B8D (R:List Bool) (i:Nat) (r:List Tree) (m:Nat) (x:Tree) (h1:(A3Z R)[i]? =some r) (h2:r[m]? =some x):(R.map Tree.bool)[i*1+m]? =some x:=by
 unfold A3Z at h1;rw [QY] at h1;obtain ⟨b,hb,rfl⟩:=Option.map_eq_some_iff.1 h1;cases m with
 | zero=>simp at h2; subst h2; rw [Yq,Nat.add_zero,QY,hb]; rfl
 | succ m=>simp at h2
inductive BEnd (es:List E) (d:List Int) (n:Nat):List Bool->List Bool->Prop where
 | stop {R:List Bool}:(A23 es d R n).2=false->BEnd es d n R R
 | go {R B:List Bool}:(A23 es d R n).2=true->BEnd es d n (A23 es d R n).1 B->BEnd es d n R B
def A8K (n q:Nat):List Bool:=(List.replicate n false).set q true
theorem B3y (n q:Nat) (es:List E) (d s:List Int) (h1:1≤n) (h12:n≤12) (hq:q<n) (hd:d.length=n) (hs:s.length=n) (hl:es.length≤40) (hm: ∀e,e∈es->(0≤e.a∧e.a<n)∧(0≤e.b∧e.b<n)∧0≤e.m∧e.m≤50) (B:List Bool) (hB:BEnd es d n (A8K n q) B) (hBl:B.length=n):
  ∃X,ACallH Tryz.prog 163 [.box [.int .i64 (n:Int),.slice (A0f es) .none],.ro [.int .i64 (n:Int),.slice (A0f es)],.box (iC d),.box (iC s),.roC [.tree (.int .i64 (n:Int)),.tree (.slice (A0f es)),.tree (.int .i64 (q:Int)),.ref 2 1 0 n n,.ref 3 1 0 n n,.tree (.int .i64 0)]] [.c (.ptr 4 0)] ([.box [.int .i64 (n:Int),.slice (A0f es) .none],.ro [.int .i64 (n:Int),.slice (A0f es)],.box (iC d),.box (iC s),.roC [.tree (.int .i64 (n:Int)),.tree (.slice (A0f es)),.tree (.int .i64 (q:Int)),.ref 2 1 0 n n,.ref 3 1 0 n n,.tree (.int .i64 0)]]++X) (.tup [.c (.slice (A3Z (B0Q B n n)) .none),.c (.bool (A6r B n))]):=by
 refine ⟨[.box (bC B),.box [.ref 5 1 0 n n],.ro ((B0Q B n n).map Tree.bool)],?_⟩;have hqI:(q:Int)<(n:Int):=by omega
 have hdn:d≠[]:=by intro e; rw [e] at hd; simp at hd; omega
 have hsn:s≠[]:=by intro e; rw [e] at hs; simp at hs; omega
 have hli:(A8K n q).length=n:=by simp [A8K]
 have hkb: ∀(v:Nat) u k,(u,k)∈lnkL es v-> ∃w:Nat,u=w∧w<n:=fun v u k hx=>by
  obtain ⟨e,he,e1,_,e2⟩:=A6N hx;have:=hm e he;simp only at e2;exact ⟨u.toNat,by omega,by omega⟩
 have hJ: ∀(R:List Bool) (v:Nat),R.length=n->v<n->ACallH Tryz.prog 161 [.box [.int .i64 (n:Int),.slice (A0f es) .none],.ro [.int .i64 (n:Int),.slice (A0f es)],.box (iC d),.box (iC s),.roC [.tree (.int .i64 (n:Int)),.tree (.slice (A0f es)),.tree (.int .i64 (q:Int)),.ref 2 1 0 n n,.ref 3 1 0 n n,.tree (.int .i64 0)],.box (bC R),.box [.ref 5 1 0 n n]] [.c (.ptr 4 0),.c (.int .i64 (v:Int)),.c (.fn 186 [.ptr 6 0])] [.box [.int .i64 (n:Int),.slice (A0f es) .none],.ro [.int .i64 (n:Int),.slice (A0f es)],.box (iC d),.box (iC s),.roC [.tree (.int .i64 (n:Int)),.tree (.slice (A0f es)),.tree (.int .i64 (q:Int)),.ref 2 1 0 n n,.ref 3 1 0 n n,.tree (.int .i64 0)],.box (bC R),.box [.ref 5 1 0 n n]] (.c (.int .i64 (jnB es R v))):=fun R v hR hv=>
  B7S n q es d s R hdn hsn (by intro e; rw [e] at hR; simp at hR; omega) (by omega) (fun e he=>by have:=hm e he; omega) v (by omega) _ _ fun X u k hx=>by
   obtain ⟨w,rfl,hw⟩:=hkb v u k hx;exact C3G n R hR rfl rfl w hw
 have hr0:=A6a (List.replicate n false) q true;have hrl:(List.replicate n false:List Bool).length=n:=by simp
 have hr0':(bC (List.replicate n false)).set q (.bool true)=bC (A8K n q):=hr0;simp only [List.cons_append,List.nil_append];refine ACallH.of_body Tryz.func163 rfl (by kernel_rfl) ?_;simp only [entry,Tryz.ntmps163,List.length_cons,List.length_nil,Nat.reduceAdd,Nat.reduceSub,List.replicate_succ,List.replicate_zero,List.cons_append,List.nil_append];refine zR (zc @hqI (zc @A32 (zc @hr0' (zc @hrl (zc @A1Q (zc @Xk Qw6)))))) Qw6 Qw6 ?_;refine AWp.loopS (α:=(List Bool×Bool)) 85 (fun w=>[(0,.c (.ptr 4 0)),(4,.c (.ptr 6 0)),(5,.c (.fn 186 [.ptr 6 0])),(6,.c (.bool w.2))]) (fun w=>[.box [.int .i64 (n:Int),.slice (A0f es) .none],.ro [.int .i64 (n:Int),.slice (A0f es)],.box (iC d),.box (iC s),.roC [.tree (.int .i64 (n:Int)),.tree (.slice (A0f es)),.tree (.int .i64 (q:Int)),.ref 2 1 0 n n,.ref 3 1 0 n n,.tree (.int .i64 0)],.box (bC w.1),.box [.ref 5 1 0 n n]]) (fun w=>w.1.length=n∧(w.2=true->BEnd es d n w.1 B)∧(w.2=false->w.1=B)) (fun w=>2*C29 w.1+(if w.2=true then 1 else 0)) ((A8K n q,true)) (hk:=A0r.headL 7 85 [0,4,5,6] (zV3 @A1g @A0I @A0F)) (h0:=?_) (round:=fun w hI=>?_)
 ·exact ⟨hli,fun _=>hB,fun h=>by cases h⟩
 ·obtain ⟨R,ag⟩:=w;obtain ⟨hRl,hI1,hI2⟩:=hI;simp only at hRl hI1 hI2 ⊢;cases ag with
  | true=>
   have hE:=hI1 rfl;clear hI1 hI2;have hcnt:=B1X es d R n (by omega);refine zR Qw6 Qw6 Qw6 ?_;refine AWp.loopS (α:=Nat) 85 (fun k=>[(0,.c (.ptr 4 0)),(4,.c (.ptr 6 0)),(5,.c (.fn 186 [.ptr 6 0])),(6,.c (.bool (A23 es d R k).2)),(29,.c (.int .i64 (n:Int))),(30,.c (.int .i64 (k:Int)))]) (fun k=>[.box [.int .i64 (n:Int),.slice (A0f es) .none],.ro [.int .i64 (n:Int),.slice (A0f es)],.box (iC d),.box (iC s),.roC [.tree (.int .i64 (n:Int)),.tree (.slice (A0f es)),.tree (.int .i64 (q:Int)),.ref 2 1 0 n n,.ref 3 1 0 n n,.tree (.int .i64 0)],.box (bC (A23 es d R k).1),.box [.ref 5 1 0 n n]]) (fun k=>k≤n) (fun k=>n-k) (0) (hk:=A0r.headL 7 85 [0,4,5,6,29,30] (zV3 @A1g @A0I @A0F)) (h0:=?_) (round:=fun k hI=>?_)
   ·exact Xj _
   ·have hk:k≤n:=hI;clear hI;by_cases hkl:k<n
    ·have hkI:(k:Int)<(n:Int):=by omega
     have hps:=A6P es d R k;have hpl:=A48 es d R k;rw [hRl] at hpl;have hJk:=hJ (A23 es d R k).1 k hpl hkl;generalize A23 es d R k=p at*;generalize hp1:A23 es d R (k+1)=p1 at*;obtain ⟨Rk,ak⟩:=p;simp only at hpl hJk hps ⊢;have hg:=A9D (A6m (R:=Rk) (i:=k) (by omega));have hds:=A5l (A11 (d:=d) (i:=k) (by omega));have hst:=A6a Rk k true;unfold C3b at hps;generalize d.getD k 0=dv at*;generalize jnB es Rk k=jv at*;cases hbk:Rk.getD k false with
     | true=>
      rw [hbk] at hps hg;simp only [Vz,Qz2] at hps;rw [if_neg (by simp)] at hps;refine zR (zc @hkI (zc @hg (zc @A1Q (zc @hpl (zc @Xk Qw6))))) Qw6 Qw6 ?_;refine ⟨k+1,A0r.headF 7 85 [0,4,5,6,29,30] (zc @hp1 (zc @hps Qw6)) (zV3 @A1g @A0I @A0F),?_,?_⟩
      ·exact hkl
      ·omega
     | false=>
      rw [hbk] at hps hg;simp only [Qq5,VV,decide_eq_true_eq] at hps;by_cases hlt:dv<jv
      ·rw [if_pos hlt] at hps;refine zJ Qw6 (zc @hkI (zc @hg (zc @hds (zc @hlt (zc @hst (zc @A1Q (zc @A1s (zc @hd (zc @hpl (zc @Xk Qw6)))))))))) Qw6 (zc hJk Qw6) Qw6 ?_;refine ⟨k+1,A0r.headF 7 85 [0,4,5,6,29,30] (zc @hp1 (zc @hps Qw6)) (zV3 @A1g @A0I @A0F),?_,?_⟩
       ·exact hkl
       ·omega
      ·rw [if_neg hlt] at hps;refine zJ Qw6 (zc @hkI (zc @hg (zc @hds (zc @hlt (zc @A1Q (zc @A1s (zc @hd (zc @hpl (zc @Xk Qw6))))))))) Qw6 (zc hJk Qw6) Qw6 ?_;refine ⟨k+1,A0r.headF 7 85 [0,4,5,6,29,30] (zc @hp1 (zc @hps Qw6)) (zV3 @A1g @A0I @A0F),?_,?_⟩
       ·exact hkl
       ·omega
    ·have hnl: ¬(k:Int)<(n:Int):=by omega
     have ek:k=n:=by omega
     have hpl:=A48 es d R n;rw [ek] at*;refine zR (zc @hnl Qw6) Qw6 Qw6 ?_;refine ⟨A23 es d R n,A0r.headN 7 85 [0,4,5,6] (zV3 @A1g @A0I @A0F),?_,?_⟩
     ·refine ⟨hpl.trans hRl,fun h=> ?_,fun h=> ?_⟩
      ·cases hE with
       | stop hp=>rw [hp] at h; cases h
       | go hp hE'=>exact hE'
      ·cases hE with
       | stop hp=>exact (hcnt.2 hp).1
       | go hp hE'=>rw [hp] at h; cases h
     ·have h1:=hcnt.1;cases hp2:(A23 es d R n).2<;>simp [hp2] at h1 ⊢<;>omega
  | false=>
   have hRB:=hI2 rfl;subst hRB;clear hI1 hI2 hB;have hn0:B0Q R n 0=List.replicate n false:=by
    apply Qz0
    ·simp [B0Q]
    ·intro i h1 h2; simp [B0Q]
   have hs0:A6r R 0=false:=rfl;refine zR (zc @A32 (zc @A1Q (zc @hRl Qw6))) Qw6 Qw6 ?_;rw [<-hn0];refine AWp.loopS (α:=Nat) 85 (fun k=>[(0,.c (.ptr 4 0)),(4,.c (.ptr 6 0)),(8,.c (.ref 7 1 0 n n)),(9,.c (.bool (A6r R k))),(63,.c (.int .i64 (n:Int))),(64,.c (.int .i64 (k:Int)))]) (fun k=>[.box [.int .i64 (n:Int),.slice (A0f es) .none],.ro [.int .i64 (n:Int),.slice (A0f es)],.box (iC d),.box (iC s),.roC [.tree (.int .i64 (n:Int)),.tree (.slice (A0f es)),.tree (.int .i64 (q:Int)),.ref 2 1 0 n n,.ref 3 1 0 n n,.tree (.int .i64 0)],.box (bC R),.box [.ref 5 1 0 n n],.box (bC (B0Q R n k))]) (fun k=>k≤n) (fun k=>n-k) (0) (hk:=A0r.headL 8 85 [0,4,8,9,63,64] (zV3 @A1g @A0I @A0F)) (h0:=?_) (round:=fun k hI=>?_)
   ·exact Xj _
   ·have hk:k≤n:=hI;clear hI;by_cases hkl:k<n
    ·have hkI:(k:Int)<(n:Int):=by omega
     have hg:=A9D (A6m (R:=R) (i:=k) (by omega));have hns:=C0H R hkl;have hnl:=A7B R n k;have hnl1:=A7B R n (k+1);have hso:=B5O R k;generalize R.getD k false=b at*;have hbs:=A6a (B0Q R n k) k (!b);rw [hns] at hbs;have hg2:(bC (B0Q R n (k+1)))[k]? =some (.bool (!b)):=by rw [<-hbs]; exact QW (by rw [A1Q,hnl]; exact hkl)
     generalize hn1:B0Q R n (k+1)=N1 at*;generalize B0Q R n k=N0 at*;generalize hso1:A6r R (k+1)=S1 at*;cases hS0:A6r R k with
     | true=>
      rw [hS0,Bool.true_or] at hso;refine zR (zc @hkI (zc @hg (zc @hg2 (zc @hbs (zc @A1Q (zc @hRl (zc @hnl (zc @hnl1 (zc @Xk Qw6))))))))) Qw6 Qw6 ?_;refine ⟨k+1,A0r.headF 8 85 [0,4,8,9,63,64] (zc @hn1 (zc @hso1 (zc @hso Qw6))) (zV3 @A1g @A0I @A0F),?_,?_⟩
      ·exact hkl
      ·omega
     | false=>
      rw [hS0,Qq3] at hso;refine zR (zc @hkI (zc @hg (zc @hg2 (zc @hbs (zc @A1Q (zc @hRl (zc @hnl (zc @hnl1 (zc @Xk Qw6))))))))) Qw6 Qw6 ?_;refine ⟨k+1,A0r.headF 8 85 [0,4,8,9,63,64] (zc @hn1 (zc @hso1 (zc @hso Qw6))) (zV3 @A1g @A0I @A0F),?_,?_⟩
      ·exact hkl
      ·omega
    ·have hnl: ¬(k:Int)<(n:Int):=by omega
     have ek:k=n:=by omega
     have hln:=A7B R n n;rw [ek];rw [ek] at hnl;refine zJ (stop 21) (zc @hnl Qw6) Qw6 Qw6 Qw6 ?_;refine AWp.freezeR 8 7 1 n n rfl rfl (C0I _) (A3Z (B0Q R n n)) (by rw [A42,hln]) (QQ _) (fun r hr=>C2A hr) (B8D _) ?_;refine zR Qw6 Qw6 Qw6 ?_;simp [A4r,A1T,A0s,A1S,Tryz.results163]
structure Rib (r:R):Prop where
 ok:ROk r
 pos:0<(endsL r.es).length
 few:(endsL r.es).length≤50
 fac:(facesR r).length≤12
section
variable {r:R}
end
section
variable {r:R}
end
def A2V:List Int->List Int->Bool
 | [],[]=>false
 | [],_::_=>true
 | _::_,[]=>false
 | a::us,b::vs=>if a=b then A2V us vs else decide (a<b)
theorem A38: ∀a b:List Int,A2V a b=true->A2V b a=false
 | [],[],h=>by simp [A2V] at h
 | [],_::_,_=>rfl
 | _::_,[],h=>by simp [A2V] at h
 | a::us,b::vs,h=>by
  simp only [A2V] at h ⊢;by_cases e:a=b
  ·rw [if_pos e] at h; rw [if_pos e.symm]; exact A38 us vs h
  ·rw [if_neg e] at h; rw [if_neg (fun x=>e x.symm)];rw [decide_eq_true_eq] at h; rw [decide_eq_false_iff_not]; omega
theorem B0D: ∀a b:List Int,A2V a b=false->A2V b a=false->a=b
 | [],[],_,_=>rfl
 | [],_::_,h,_=>by simp [A2V] at h
 | _::_,[],_,h=>by simp [A2V] at h
 | a::us,b::vs,h,h2=>by
  simp only [A2V] at h h2;by_cases e:a=b
  ·rw [if_pos e] at h; rw [if_pos e.symm] at h2; rw [e,B0D us vs h h2]
  ·rw [if_neg e] at h; rw [if_neg (fun x=>e x.symm)] at h2;rw [decide_eq_false_iff_not] at h h2; omega
theorem A6s: ∀a b c:List Int,A2V b a=false->A2V c b=false->A2V c a=false
 | [],_,[],_,_=>rfl
 | _::_,[],[],h,_=>by simp [A2V] at h
 | a::us,_,[],h,h2=>by
  rename_i x;cases x with
  | nil=>simp [A2V] at h
  | cons b vs=>simp [A2V] at h2
 | [],_,_::_,_,_=>rfl
 | a::us,[],c::ws,h,h2=>by simp [A2V] at h
 | a::us,b::vs,c::ws,h,h2=>by
  simp only [A2V] at h h2 ⊢;by_cases e1:b=a
  ·subst e1;rw [if_pos rfl] at h;by_cases e2:c=b
   ·rw [if_pos e2] at h2 ⊢; exact A6s us vs ws h h2
   ·rw [if_neg e2] at h2 ⊢; exact h2
  ·rw [if_neg e1,decide_eq_false_iff_not] at h;by_cases e2:c=b
   ·rw [if_pos e2] at h2;rw [if_neg (by omega),decide_eq_false_iff_not]; omega
   ·rw [if_neg e2,decide_eq_false_iff_not] at h2;rw [if_neg (by omega),decide_eq_false_iff_not]; omega
theorem B5P (a:List Int):A2V a a=false:=by
 cases h:A2V a a with
 | false=>rfl
 | true=>have:=A38 a a h; rw [h] at this; cases this
def sortLL (l:List (List Int)):List (List Int):=l.mergeSort fun a b=> !A2V b a
theorem A8L (l:List (List Int)):(sortLL l).Perm l:=List.mergeSort_perm l _
theorem B8E (l:List (List Int)):(sortLL l).Pairwise fun a b=>A2V b a=false:=by
 have:=List.pairwise_mergeSort (le:=fun a b:List Int=> !A2V b a) (fun a b c h1 h2=>by
  simp only [YW] at*; exact A6s a b c h1 h2) (fun a b=>by
  cases h:A2V b a with
  | false=>simp
  | true=>simp [A38 _ _ h]) l
 exact this.imp fun h=>by simpa using h
theorem B1Y {l m:List (List Int)} (hs:m.Pairwise fun a b=>A2V b a=false) (hp:m.Perm l):m=sortLL l:=
 List.Perm.eq_of_pairwise (le:=fun a b:List Int=>A2V b a=false) (fun a b _ _ h1 h2=>B0D a b h2 h1) hs (B8E l) (hp.trans (A8L l).symm)
def C5b (nums:List Int) (fl:List Bool) (T:List Int) (e:Nat):List Int:=
 (T.set (2*(nums.getD e 0).toNat) (if fl.getD e false=true then 2*(e:Int)+1 else 2*(e:Int))).set (2*(nums.getD e 0).toNat+1) (if fl.getD e false=true then 2*(e:Int) else 2*(e:Int)+1)
def invK (nums:List Int) (fl:List Bool) (k:Nat):List Int:=(List.range k).foldl (C5b nums fl) (List.replicate (2*nums.length) 0)
def flB (m bits:Nat):List Bool:=(List.range m).map fun i=>decide (bits / 2^i%2=1)
def behI (to back:List Int) (k:Nat):List Int:=(List.range back.length).map fun j=>if j<k then to.getD (back.getD j 0).toNat 0 else back.getD j 0
def renL (to:List Int) (l:List Int):List Int:=C3y (l.map fun z=>to.getD z.toNat 0)
section
variable {r:R}
end
def B8F (w a:Nat):Nat:=w / 2^a%2
theorem C5c (w a:Nat) (ha:a≤12):((w:Int)).fdiv (2^min a 64)=((w / 2^a:Nat):Int):=by
 rw [Vj (by omega)];have e:(2:Int)^a=((2^a:Nat):Int):=by simp
 rw [e,Int.fdiv_eq_ediv_of_nonneg _ (Int.natCast_nonneg _)];rfl
theorem C5d (x:Nat) (hx:x<2^40):B4J .and .i64 (x:Int) 1=((x%2:Nat):Int):=by
 have h:(BitVec.ofInt 64 (x:Int)&&&BitVec.ofInt 64 (1:Int)).toNat=x%2:=by
  rw [BitVec.ofInt_natCast,show BitVec.ofInt 64 (1:Int)=BitVec.ofNat 64 1 from rfl,BitVec.toNat_and,BitVec.toNat_ofNat,BitVec.toNat_ofNat,JY (show x<2^64 by omega),show 1%2^64=1 by decide,Nat.and_one_is_mod]
 show IntKind.i64.wrap (((BitVec.ofInt 64 (x:Int)&&&BitVec.ofInt 64 (1:Int)).toNat:Nat):Int)=_;rw [h];exact wrap_in ⟨by show (-9223372036854775808:Int)≤_; omega,by show _≤(9223372036854775807:Int); omega⟩
theorem C5e (n:Nat) (h:n≤12):(1:Int)*2^min n 64=((2^n:Nat):Int):=by
 rw [Vj (by omega),Int.one_mul]; simp
theorem C4F {n:Nat} (h:n≤12):2^n≤4096∧1≤2^n:=⟨Nat.pow_le_pow_right (by omega) h,Nat.one_le_two_pow⟩
def setN (n w:Nat):List Nat:=(List.range n).filter fun v=>decide (B8F w v=1)
theorem B8G (n w:Nat):setN (n+1) w=if B8F w n=1 then setN n w++[n] else setN n w:=by
 unfold setN;rw [WZ,VW];by_cases h:B8F w n=1<;>simp [h]
theorem B0E (n w:Nat):(setN n w).length≤n:=by unfold setN; exact Yj (WV _ _) (by simp)
def cutW (w:Nat):List E->Int
 | []=>0
 | e::es=>(if B8F w e.a.toNat=B8F w e.b.toNat then 0 else e.m)+cutW w es
def C0J (n:Nat) (es:List E) (s:Int×List Nat) (w:Nat):Int×List Nat:=
 if w%2=0 then s else if 0≤s.1∧s.1<cutW w es then s else
  if cutW w es<s.1∨s.1<0∨A1M (zI (setN n w)) (zI s.2)<0 then (cutW w es,setN n w) else s
def connW (n:Nat) (es:List E) (k:Nat):Int×List Nat:=(List.range k).foldl (C0J n es) (-1,[])
theorem B0F: ∀(a b:List Int),A2V a b=true↔A1M a b<0
 | [],[]=>by simp [A2V,A1M]
 | [],_::_=>by simp [A2V,A1M]
 | _::_,[]=>by simp [A2V,A1M]
 | x::a,y::b=>by
  have ih:=B0F a b;have h1:=A8D (x:=x) (y:=y);have h2:=C0r (x:=x) (y:=y);show (if x=y then A2V a b else decide (x<y))=true↔(if A55 x y=0 then A1M a b else A55 x y)<0;by_cases h:x=y
  ·rw [if_pos h,if_pos (h1.2 h)]; exact ih
  ·rw [if_neg h,if_neg (fun q=>h (h1.1 q)),decide_eq_true_eq]; exact h2.symm
theorem C0K {n w:Nat} {x:Int}:x∈zI (setN n w)↔ ∃a:Nat,x=a∧a<n∧B8F w a=1:=by
 unfold zI setN;rw [Xq];constructor
 ·rintro ⟨a,ha,rfl⟩;rw [JX,XJ,decide_eq_true_eq] at ha;exact ⟨a,rfl,ha.1,ha.2⟩
 ·rintro ⟨a,rfl,h1,h2⟩;exact ⟨a,by rw [JX,XJ,decide_eq_true_eq]; exact ⟨h1,h2⟩,rfl⟩
structure FewF (g:G):Prop where
 es:g.es.length≤40
 sz:checkG g=0->g.n≤6∧(endsL g.es).length≤9
end Go.Proofs.YtdbdfkohpjefjaaGreat
