/- A part of the proof. -/
import Derived.Test.YtdhfgihnoimoaaaLayerC
import Derived.Test.YtdhfgihnoimoaaaPart28
import Derived.Test.YtdhfgihnoimoaaaLayerD
import Derived.Test.YtdhfgihnoimoaaaPart26
set_option linter.all false
set_option maxHeartbeats 4000000
set_option maxRecDepth 100000
namespace Go.Proofs.Ytdhfgihnoimoaaa
open Go.Sp
def jnB (es:List E) (R:List Bool) (v:Nat):Int:=joinL (fun u=>R.getD u.toNat false) (lnkL es v)
def B4k (es:List E) (d:List Int) (R:List Bool) (v:Nat):Bool:= !R.getD v false&&decide (d.getD v 0<jnB es R v)
def A2o (es:List E) (d:List Int) (R:List Bool):Nat→List Bool×Bool
 | 0=>(R,false)
 | k+1=>if B4k es d (A2o es d R k).1 k=true then ((A2o es d R k).1.set k true,true) else A2o es d R k
theorem A4J (es:List E) (d:List Int) (R:List Bool) (k:Nat):A2o es d R (k+1)=if B4k es d (A2o es d R k).1 k=true then ((A2o es d R k).1.set k true,true) else A2o es d R k:=rfl
structure Burn (es:List E) (d:List Int) (q:Nat) (R:List Bool) (L:List Nat):Prop where
 nd:L.Nodup
 mem: ∀v,R.getD v false=true↔v∈L
 hd:L[0]? =some q
 ord: ∀i v,1≤i→L[i]? =some v→d.getD v 0<joinL (fun u=>decide (u.toNat∈L.take i)) (lnkL es v)
def A91 (es:List E) (d:List Int) (q:Nat) (R:List Bool):Prop:= ∃L,Burn es d q R L
theorem getD_set_true (R:List Bool) (k v:Nat) (hk:k<R.length):(R.set k true).getD v false=if v=k then true else R.getD v false:=by
 rw [List.getD_eq_getElem?_getD,List.getElem?_set]
 by_cases e:k=v
 ·subst e; rw [if_pos rfl,if_pos hk,if_pos rfl]; rfl
 ·rw [if_neg e,if_neg (fun h=>e h.symm),List.getD_eq_getElem?_getD]
theorem Burn.step {es:List E} {d:List Int} {q:Nat} {R:List Bool} {L:List Nat} (h:Burn es d q R L) {k:Nat} (hk:k<R.length) (hm:B4k es d R k=true):Burn es d q (R.set k true) (L++[k]):=by
 unfold B4k at hm
 simp only [Bool.and_eq_true,Bool.not_eq_true',decide_eq_true_eq] at hm
 have hkL:k∉L:=fun hx=>by rw [(h.mem k).2 hx] at hm; cases hm.1
 have hlen:0<L.length:=(List.getElem?_eq_some_iff.1 h.hd).1
 refine ⟨List.nodup_append.2 ⟨h.nd,by simp,fun a ha b hb=>by simp at hb; subst hb; rintro rfl; exact hkL ha⟩,fun v=> ?_,by rw [List.getElem?_append_left hlen]; exact h.hd,fun i v hi hv=> ?_⟩
 ·rw [getD_set_true R k v hk,List.mem_append,List.mem_singleton]
  by_cases e:v=k
  ·rw [if_pos e]; simp [e]
  ·rw [if_neg e,h.mem]; simp [e]
 ·by_cases hil:i<L.length
  ·rw [List.getElem?_append_left hil] at hv
   rw [List.take_append_of_le_length (by omega)]; exact h.ord i v hi hv
  ·have hi2:=(List.getElem?_eq_some_iff.1 hv).1
   simp at hi2
   have hie:i=L.length:=by omega
   subst hie
   rw [List.getElem?_append_right (Nat.le_refl _)] at hv
   simp at hv; subst hv
   rw [List.take_append_of_le_length (Nat.le_refl _),List.take_length]
   have e:(fun u:Int=>decide (u.toNat∈L))=fun u=>R.getD u.toNat false:=by
    funext u
    rw [Bool.eq_iff_iff,decide_eq_true_eq,h.mem]
   rw [e]; exact hm.2
theorem A3d (es:List E) (d:List Int) (R:List Bool): ∀k,(A2o es d R k).1.length=R.length
 | 0=>rfl
 | k+1=>by
  rw [A4J]
  split
  ·simp only [List.length_set]; exact A3d es d R k
  ·exact A3d es d R k
theorem A8I {es:List E} {d:List Int} {q:Nat} {R:List Bool} (h:A91 es d q R): ∀k,k≤R.length→A91 es d q (A2o es d R k).1
 | 0,_=>h
 | k+1,hk=>by
  obtain ⟨L,hL⟩:=A8I h k (by omega)
  rw [A4J]
  split
  ·rename_i hm
   exact ⟨_,hL.step (by rw [A3d]; omega) hm⟩
  ·exact ⟨L,hL⟩
def cntF (R:List Bool):Nat:=R.countP fun b=> !b
theorem B2D: ∀{R:List Bool} {k:Nat},R[k]? =some false→cntF (R.set k true)+1=cntF R
 | [],k,h=>by simp at h
 | b::R,0,h=>by simp at h; subst h; simp [cntF]
 | b::R,k+1,h=>by
  have:=B2D (R:=R) (k:=k) (by simpa using h)
  unfold cntF at this ⊢
  simp only [List.set_cons_succ,List.countP_cons]
  omega
theorem A5O (es:List E) (d:List Int) (R:List Bool): ∀k,k≤R.length→cntF (A2o es d R k).1+(if (A2o es d R k).2=true then 1 else 0)≤cntF R∧((A2o es d R k).2=false→(A2o es d R k).1=R∧ ∀v,v<k→B4k es d R v=false)
 | 0,_=>⟨by simp [A2o],fun _=>⟨rfl,fun v hv=>by omega⟩⟩
 | k+1,hk=>by
  obtain ⟨h1,h2⟩:=A5O es d R k (by omega)
  rw [A4J]
  split
  ·rename_i hm
   refine ⟨?_,fun h=>by cases h⟩
   have hm2:=hm
   unfold B4k at hm2
   simp only [Bool.and_eq_true,Bool.not_eq_true',decide_eq_true_eq] at hm2
   have:=B2D (R:=(A2o es d R k).1) (k:=k) (by rw [A1T (by rw [A3d]; omega),hm2.1])
   simp only [if_true]
   split at h1<;>omega
  ·rename_i hm
   rw [Bool.not_eq_true] at hm
   refine ⟨h1,fun h=> ?_⟩
   obtain ⟨e,h3⟩:=h2 h
   refine ⟨e,fun v hv=> ?_⟩
   by_cases hvk:v=k
   ·subst hvk; rw [e] at hm; exact hm
   ·exact h3 v (by omega)
def A3T (R:List Bool) (k:Nat):Bool:=(List.range k).any fun v=> !R.getD v false
def A9T (R:List Bool) (n k:Nat):List Bool:=(List.range n).map fun v=>decide (v<k)&& !R.getD v false
theorem A5P (R:List Bool) (n k:Nat):(A9T R n k).length=n:=by simp [A9T]
theorem A92 (R:List Bool) (n k i:Nat):(A9T R n k)[i]? =if i<n then some (decide (i<k)&& !R.getD i false) else none:=by
 unfold A9T
 rw [List.getElem?_map]
 by_cases h:i<n
 ·rw [if_pos h,List.getElem?_range h]; rfl
 ·rw [if_neg h,List.getElem?_eq_none (by simpa using h)]; rfl
theorem B6V (R:List Bool) {n k:Nat} (hk:k<n):(A9T R n k).set k (!R.getD k false)=A9T R n (k+1):=by
 apply List.ext_getElem?
 intro i
 rw [List.getElem?_set,A5P,A92,A92]
 by_cases e:k=i
 ·subst e
  rw [if_pos rfl,if_pos hk,if_pos hk,decide_eq_true (show k<k+1 by omega)]; rfl
 ·rw [if_neg e]
  by_cases h:i<n
  ·rw [if_pos h,if_pos h,decide_eq_decide.2 (show i<k↔i<k+1 by omega)]
  ·rw [if_neg h,if_neg h]
theorem B3M (R:List Bool) (k:Nat):A3T R (k+1)=(A3T R k|| !R.getD k false):=by
 unfold A3T; rw [List.range_succ,List.any_append]; simp
theorem B6W (R:List Bool):(bC R).mapM A0a=some (R.map Tree.bool):=by
 induction R with
 | nil=>rfl
 | cons b R ih=>
  unfold bC at ih ⊢
  rw [List.map_cons,List.mapM_cons,ih]; rfl
theorem B8w {R:List Bool} {r:List Tree} (h:r∈A1m R):r.length=1:=by
 unfold A1m at h
 obtain ⟨b,_,rfl⟩:=List.mem_map.1 h; rfl
theorem B5t (R:List Bool) (i:Nat) (r:List Tree) (m:Nat) (x:Tree) (h1:(A1m R)[i]? =some r) (h2:r[m]? =some x):(R.map Tree.bool)[i*1+m]? =some x:=by
 unfold A1m at h1
 rw [List.getElem?_map] at h1
 obtain ⟨b,hb,rfl⟩:=Option.map_eq_some_iff.1 h1
 cases m with
 | zero=>simp at h2; subst h2; rw [Nat.mul_one,Nat.add_zero,List.getElem?_map,hb]; rfl
 | succ m=>simp at h2
inductive BEnd (es:List E) (d:List Int) (n:Nat):List Bool→List Bool→Prop where
 | stop {R:List Bool}:(A2o es d R n).2=false→BEnd es d n R R
 | go {R B:List Bool}:(A2o es d R n).2=true→BEnd es d n (A2o es d R n).1 B→BEnd es d n R B
theorem B9J {es:List E} {d:List Int} {n q:Nat}: ∀(f:Nat) (R:List Bool),cntF R≤f→R.length=n→A91 es d q R→ ∃B,BEnd es d n R B∧B.length=n∧A91 es d q B∧ ∀v,v<n→B4k es d B v=false:=by
 intro f
 induction f with
 | zero=>
  intro R hc hl hb
  obtain ⟨h1,h2⟩:=A5O es d R n (by omega)
  cases hp:(A2o es d R n).2 with
  | false=>exact ⟨R,.stop hp,hl,hb,(h2 hp).2⟩
  | true=>rw [hp] at h1; simp at h1; omega
 | succ f ih=>
  intro R hc hl hb
  obtain ⟨h1,h2⟩:=A5O es d R n (by omega)
  cases hp:(A2o es d R n).2 with
  | false=>exact ⟨R,.stop hp,hl,hb,(h2 hp).2⟩
  | true=>
   rw [hp] at h1
   simp only [if_true] at h1
   obtain ⟨B,b1,b2⟩:=ih (A2o es d R n).1 (by omega) (by rw [A3d]; exact hl) (A8I hb n (by omega))
   exact ⟨B,.go hp b1,b2⟩
def A5Q (n q:Nat):List Bool:=(List.replicate n false).set q true
theorem A8J {es:List E} {d:List Int} {n q:Nat} (hq:q<n):A91 es d q (A5Q n q):=by
 refine ⟨[q],by simp,fun v=> ?_,rfl,fun i v hi hv=>by have:=(List.getElem?_eq_some_iff.1 hv).1; simp at this; omega⟩
 unfold A5Q
 rw [getD_set_true _ q v (by simpa using hq),List.mem_singleton]
 by_cases e:v=q
 ·rw [if_pos e]; simp [e]
 ·rw [if_neg e]
  rw [List.getD_eq_getElem?_getD,List.getElem?_replicate]
  split<;>simp [e]
theorem B1S (n q:Nat) (es:List E) (d s:List Int) (h1:1≤n) (h12:n≤12) (hq:q<n) (hd:d.length=n) (hs:s.length=n) (hl:es.length≤40) (hm: ∀e,e∈es→(0≤e.a∧e.a<n)∧(0≤e.b∧e.b<n)∧0≤e.m∧e.m≤50) (B:List Bool) (hB:BEnd es d n (A5Q n q) B) (hBl:B.length=n):
  ∃X,ACallH Try.prog 110 [.box [.int .i64 (n:Int),.slice (A0b es) .none],.ro [.int .i64 (n:Int),.slice (A0b es)],.box (iC d),.box (iC s),.roC [.tree (.int .i64 (n:Int)),.tree (.slice (A0b es)),.tree (.int .i64 (q:Int)),.ref 2 1 0 n n,.ref 3 1 0 n n,.tree (.int .i64 0)]] [.c (.ptr 4 0)] ([.box [.int .i64 (n:Int),.slice (A0b es) .none],.ro [.int .i64 (n:Int),.slice (A0b es)],.box (iC d),.box (iC s),.roC [.tree (.int .i64 (n:Int)),.tree (.slice (A0b es)),.tree (.int .i64 (q:Int)),.ref 2 1 0 n n,.ref 3 1 0 n n,.tree (.int .i64 0)]]++X) (.tup [.c (.slice (A1m (A9T B n n)) .none),.c (.bool (A3T B n))]):=by
 refine ⟨[.box (bC B),.box [.ref 5 1 0 n n],.ro ((A9T B n n).map Tree.bool)],?_⟩
 have hqI:(q:Int)<(n:Int):=by omega
 have hdn:d≠[]:=by intro e; rw [e] at hd; simp at hd; omega
 have hsn:s≠[]:=by intro e; rw [e] at hs; simp at hs; omega
 have hli:(A5Q n q).length=n:=by simp [A5Q]
 have hkb: ∀(v:Nat) u k,(u,k)∈lnkL es v→ ∃w:Nat,u=w∧w<n:=fun v u k hx=>by
  obtain ⟨e,he,e1,_,e2⟩:=A2u hx
  have:=hm e he
  simp only at e2
  exact ⟨u.toNat,by omega,by omega⟩
 have hJ: ∀(R:List Bool) (v:Nat),R.length=n→v<n→ACallH Try.prog 108 [.box [.int .i64 (n:Int),.slice (A0b es) .none],.ro [.int .i64 (n:Int),.slice (A0b es)],.box (iC d),.box (iC s),.roC [.tree (.int .i64 (n:Int)),.tree (.slice (A0b es)),.tree (.int .i64 (q:Int)),.ref 2 1 0 n n,.ref 3 1 0 n n,.tree (.int .i64 0)],.box (bC R),.box [.ref 5 1 0 n n]] [.c (.ptr 4 0),.c (.int .i64 (v:Int)),.c (.fn 123 [.ptr 6 0])] [.box [.int .i64 (n:Int),.slice (A0b es) .none],.ro [.int .i64 (n:Int),.slice (A0b es)],.box (iC d),.box (iC s),.roC [.tree (.int .i64 (n:Int)),.tree (.slice (A0b es)),.tree (.int .i64 (q:Int)),.ref 2 1 0 n n,.ref 3 1 0 n n,.tree (.int .i64 0)],.box (bC R),.box [.ref 5 1 0 n n]] (.c (.int .i64 (jnB es R v))):=fun R v hR hv=>
  B05 n q es d s R hdn hsn (by intro e; rw [e] at hR; simp at hR; omega) (by omega) (fun e he=>by have:=hm e he; omega) v (by omega) _ _ fun X u k hx=>by
   obtain ⟨w,rfl,hw⟩:=hkb v u k hx
   exact B9h n R hR rfl rfl w hw
 have hr0:=A4W (List.replicate n false) q true
 have hrl:(List.replicate n false:List Bool).length=n:=by simp
 have hr0':(bC (List.replicate n false)).set q (.bool true)=bC (A5Q n q):=hr0
 simp only [List.cons_append,List.nil_append]
 refine ACallH.of_body Try.func110 rfl (by kernel_rfl) ?_
 simp only [entry,Try.ntmps110,List.length_cons,List.length_nil,Nat.reduceAdd,Nat.reduceSub,List.replicate_succ,List.replicate_zero,List.cons_append,List.nil_append]
 refine zR (zc @hqI (zc @A2J (zc @hr0' (zc @hrl (zc @A1z (zc @Nat.zero_add trivial)))))) trivial trivial ?_
 refine AWp.loopS (α:=(List Bool×Bool)) 85 (fun w=>[(0,.c (.ptr 4 0)),(4,.c (.ptr 6 0)),(5,.c (.fn 123 [.ptr 6 0])),(6,.c (.bool w.2))]) (fun w=>[.box [.int .i64 (n:Int),.slice (A0b es) .none],.ro [.int .i64 (n:Int),.slice (A0b es)],.box (iC d),.box (iC s),.roC [.tree (.int .i64 (n:Int)),.tree (.slice (A0b es)),.tree (.int .i64 (q:Int)),.ref 2 1 0 n n,.ref 3 1 0 n n,.tree (.int .i64 0)],.box (bC w.1),.box [.ref 5 1 0 n n]]) (fun w=>w.1.length=n∧(w.2=true→BEnd es d n w.1 B)∧(w.2=false→w.1=B)) (fun w=>2*cntF w.1+(if w.2=true then 1 else 0)) ((A5Q n q,true)) (hk:=A0s.headL 7 85 [0,4,5,6] (zV3 @A0o @A0j @A0r)) (h0:=?_) (round:=fun w hI=>?_)
 ·exact ⟨hli,fun _=>hB,fun h=>by cases h⟩
 ·obtain ⟨R,ag⟩:=w
  obtain ⟨hRl,hI1,hI2⟩:=hI
  simp only at hRl hI1 hI2 ⊢
  cases ag with
  | true=>
   have hE:=hI1 rfl
   clear hI1 hI2
   have hcnt:=A5O es d R n (by omega)
   refine zR trivial trivial trivial ?_
   refine AWp.loopS (α:=Nat) 85 (fun k=>[(0,.c (.ptr 4 0)),(4,.c (.ptr 6 0)),(5,.c (.fn 123 [.ptr 6 0])),(6,.c (.bool (A2o es d R k).2)),(29,.c (.int .i64 (n:Int))),(30,.c (.int .i64 (k:Int)))]) (fun k=>[.box [.int .i64 (n:Int),.slice (A0b es) .none],.ro [.int .i64 (n:Int),.slice (A0b es)],.box (iC d),.box (iC s),.roC [.tree (.int .i64 (n:Int)),.tree (.slice (A0b es)),.tree (.int .i64 (q:Int)),.ref 2 1 0 n n,.ref 3 1 0 n n,.tree (.int .i64 0)],.box (bC (A2o es d R k).1),.box [.ref 5 1 0 n n]]) (fun k=>k≤n) (fun k=>n-k) (0) (hk:=A0s.headL 7 85 [0,4,5,6,29,30] (zV3 @A0o @A0j @A0r)) (h0:=?_) (round:=fun k hI=>?_)
   ·exact Nat.zero_le _
   ·have hk:k≤n:=hI
    clear hI
    by_cases hkl:k<n
    ·have hkI:(k:Int)<(n:Int):=by omega
     have hps:=A4J es d R k
     have hpl:=A3d es d R k
     rw [hRl] at hpl
     have hJk:=hJ (A2o es d R k).1 k hpl hkl
     generalize A2o es d R k=p at*
     generalize hp1:A2o es d R (k+1)=p1 at*
     obtain ⟨Rk,ak⟩:=p
     simp only at hpl hJk hps ⊢
     have hg:=A6G (A1T (R:=Rk) (i:=k) (by omega))
     have hds:=A1J (A0u (d:=d) (i:=k) (by omega))
     have hst:=A4W Rk k true
     unfold B4k at hps
     generalize d.getD k 0=dv at*
     generalize jnB es Rk k=jv at*
     cases hbk:Rk.getD k false with
     | true=>
      rw [hbk] at hps hg
      simp only [Bool.not_true,Bool.false_and] at hps
      rw [if_neg (by simp)] at hps
      refine zR (zc @hkI (zc @hg (zc @A1z (zc @hpl (zc @Nat.zero_add trivial))))) trivial trivial ?_
      refine ⟨k+1,A0s.headF 7 85 [0,4,5,6,29,30] (zc @hp1 (zc @hps trivial)) (zV3 @A0o @A0j @A0r),?_,?_⟩
      ·exact hkl
      ·omega
     | false=>
      rw [hbk] at hps hg
      simp only [Bool.not_false,Bool.true_and,decide_eq_true_eq] at hps
      by_cases hlt:dv<jv
      ·rw [if_pos hlt] at hps
       refine zJ trivial (zc @hkI (zc @hg (zc @hds (zc @hlt (zc @hst (zc @A1z (zc @A0F (zc @hd (zc @hpl (zc @Nat.zero_add trivial)))))))))) trivial (zc hJk trivial) trivial ?_
       refine ⟨k+1,A0s.headF 7 85 [0,4,5,6,29,30] (zc @hp1 (zc @hps trivial)) (zV3 @A0o @A0j @A0r),?_,?_⟩
       ·exact hkl
       ·omega
      ·rw [if_neg hlt] at hps
       refine zJ trivial (zc @hkI (zc @hg (zc @hds (zc @hlt (zc @A1z (zc @A0F (zc @hd (zc @hpl (zc @Nat.zero_add trivial))))))))) trivial (zc hJk trivial) trivial ?_
       refine ⟨k+1,A0s.headF 7 85 [0,4,5,6,29,30] (zc @hp1 (zc @hps trivial)) (zV3 @A0o @A0j @A0r),?_,?_⟩
       ·exact hkl
       ·omega
    ·have hnl: ¬(k:Int)<(n:Int):=by omega
     have ek:k=n:=by omega
     have hpl:=A3d es d R n
     rw [ek] at*
     refine zR (zc @hnl trivial) trivial trivial ?_
     refine ⟨A2o es d R n,A0s.headN 7 85 [0,4,5,6] (zV3 @A0o @A0j @A0r),?_,?_⟩
     ·refine ⟨hpl.trans hRl,fun h=> ?_,fun h=> ?_⟩
      ·cases hE with
       | stop hp=>rw [hp] at h; cases h
       | go hp hE'=>exact hE'
      ·cases hE with
       | stop hp=>exact (hcnt.2 hp).1
       | go hp hE'=>rw [hp] at h; cases h
     ·have h1:=hcnt.1
      cases hp2:(A2o es d R n).2<;>simp [hp2] at h1 ⊢<;>omega
  | false=>
   have hRB:=hI2 rfl
   subst hRB
   clear hI1 hI2 hB
   have hn0:A9T R n 0=List.replicate n false:=by
    apply List.ext_getElem
    ·simp [A9T]
    ·intro i h1 h2; simp [A9T]
   have hs0:A3T R 0=false:=rfl
   refine zR (zc @A2J (zc @A1z (zc @hRl trivial))) trivial trivial ?_
   rw [←hn0]
   refine AWp.loopS (α:=Nat) 85 (fun k=>[(0,.c (.ptr 4 0)),(4,.c (.ptr 6 0)),(8,.c (.ref 7 1 0 n n)),(9,.c (.bool (A3T R k))),(63,.c (.int .i64 (n:Int))),(64,.c (.int .i64 (k:Int)))]) (fun k=>[.box [.int .i64 (n:Int),.slice (A0b es) .none],.ro [.int .i64 (n:Int),.slice (A0b es)],.box (iC d),.box (iC s),.roC [.tree (.int .i64 (n:Int)),.tree (.slice (A0b es)),.tree (.int .i64 (q:Int)),.ref 2 1 0 n n,.ref 3 1 0 n n,.tree (.int .i64 0)],.box (bC R),.box [.ref 5 1 0 n n],.box (bC (A9T R n k))]) (fun k=>k≤n) (fun k=>n-k) (0) (hk:=A0s.headL 8 85 [0,4,8,9,63,64] (zV3 @A0o @A0j @A0r)) (h0:=?_) (round:=fun k hI=>?_)
   ·exact Nat.zero_le _
   ·have hk:k≤n:=hI
    clear hI
    by_cases hkl:k<n
    ·have hkI:(k:Int)<(n:Int):=by omega
     have hg:=A6G (A1T (R:=R) (i:=k) (by omega))
     have hns:=B6V R hkl
     have hnl:=A5P R n k
     have hnl1:=A5P R n (k+1)
     have hso:=B3M R k
     generalize R.getD k false=b at*
     have hbs:=A4W (A9T R n k) k (!b)
     rw [hns] at hbs
     have hg2:(bC (A9T R n (k+1)))[k]? =some (.bool (!b)):=by rw [←hbs]; exact List.getElem?_set_self (by rw [A1z,hnl]; exact hkl)
     generalize hn1:A9T R n (k+1)=N1 at*
     generalize A9T R n k=N0 at*
     generalize hso1:A3T R (k+1)=S1 at*
     cases hS0:A3T R k with
     | true=>
      rw [hS0,Bool.true_or] at hso
      refine zR (zc @hkI (zc @hg (zc @hg2 (zc @hbs (zc @A1z (zc @hRl (zc @hnl (zc @hnl1 (zc @Nat.zero_add trivial))))))))) trivial trivial ?_
      refine ⟨k+1,A0s.headF 8 85 [0,4,8,9,63,64] (zc @hn1 (zc @hso1 (zc @hso trivial))) (zV3 @A0o @A0j @A0r),?_,?_⟩
      ·exact hkl
      ·omega
     | false=>
      rw [hS0,Bool.false_or] at hso
      refine zR (zc @hkI (zc @hg (zc @hg2 (zc @hbs (zc @A1z (zc @hRl (zc @hnl (zc @hnl1 (zc @Nat.zero_add trivial))))))))) trivial trivial ?_
      refine ⟨k+1,A0s.headF 8 85 [0,4,8,9,63,64] (zc @hn1 (zc @hso1 (zc @hso trivial))) (zV3 @A0o @A0j @A0r),?_,?_⟩
      ·exact hkl
      ·omega
    ·have hnl: ¬(k:Int)<(n:Int):=by omega
     have ek:k=n:=by omega
     have hln:=A5P R n n
     rw [ek]
     rw [ek] at hnl
     refine zJ (stop 21) (zc @hnl trivial) trivial trivial trivial ?_
     refine AWp.freezeR 8 7 1 n n rfl rfl (B6W _) (A1m (A9T R n n)) (by rw [A0V,hln]) (Nat.le_refl _) (fun r hr=>B8w hr) (B5t _) ?_
     refine zR trivial trivial trivial ?_
     simp [A2W,A1M,A0y,A1L,Try.results110]
abbrev BS3:=List Int×List Nat×Nat
def stepD (v:Nat) (s:BS3) (x:Int×Int):BS3:=if s.1.getD x.1.toNat 0<0 then (s.1.set x.1.toNat (s.1.getD v 0+1),s.2.1++[x.1.toNat],s.2.2+1) else s
def B4l (es:List E) (v:Nat) (s:BS3):BS3:=(lnkL es v).foldl (stepD v) s
def cntNeg (o:List Int):Nat:=o.countP fun x=>decide (x<0)
theorem A4K: ∀{o:List Int} {u:Nat} {x y:Int},o[u]? =some y→y<0→0≤x→cntNeg (o.set u x)+1=cntNeg o
 | [],u,x,y,h,_,_=>by simp at h
 | a::o,0,x,y,h,h1,h2=>by
  simp at h; subst h
  unfold cntNeg
  simp only [List.set_cons_zero,List.countP_cons]
  rw [if_pos (decide_eq_true h1),if_neg (by simpa using h2)]
 | a::o,u+1,x,y,h,h1,h2=>by
  have:=A4K (o:=o) (u:=u) (x:=x) (y:=y) (by simpa using h) h1 h2
  unfold cntNeg at this ⊢
  simp only [List.set_cons_succ,List.countP_cons]
  omega
theorem A08 (o:List Int) (k:Nat) (x:Int) (v:Nat) (hk:k<o.length):(o.set k x).getD v 0=if v=k then x else o.getD v 0:=by
 rw [List.getD_eq_getElem?_getD,List.getElem?_set]
 by_cases e:k=v
 ·subst e; rw [if_pos rfl,if_pos hk,if_pos rfl]; rfl
 ·rw [if_neg e,if_neg (fun h=>e h.symm),List.getD_eq_getElem?_getD]
theorem B8x {es:List E} {v:Int} {x:Int×Int} (h:x∈lnkL es v):(v,x.2)∈lnkL es x.1:=by
 obtain ⟨e,he,h1,h2,h3⟩:=A2u h
 unfold lnkL
 rw [List.mem_filterMap]
 refine ⟨e,he,?_⟩
 unfold B4f
 rcases h3 with ⟨h3,h4⟩ | ⟨h3,h4⟩
 ·rw [if_pos ⟨h2,.inr h4.symm⟩,h1,h4,←h3]; congr 2; omega
 ·rw [if_pos ⟨h2,.inl h4.symm⟩,h1,h4,←h3]; congr 2; omega
structure BFq (es:List E) (n q:Nat) (o:List Int) (Q:List Nat):Prop where
 len:o.length=n
 q0:o.getD q 0=0
 bnd: ∀x,x<n→ -1≤o.getD x 0∧o.getD x 0+cntNeg o≤n-1
 qm: ∀a,a∈Q→a<n∧0≤o.getD a 0
 srt:Q.Pairwise fun a b=>o.getD a 0≤o.getD b 0
 gap: ∀a b,a∈Q→b∈Q→o.getD b 0≤o.getD a 0+1
 proc: ∀x,x<n→0≤o.getD x 0→x∉Q→(∀a,a∈Q→o.getD x 0≤o.getD a 0)∧ ∀y,y∈lnkL es x→0≤o.getD y.1.toNat 0∧o.getD y.1.toNat 0≤o.getD x 0+1
 par: ∀x,x<n→x≠q→0≤o.getD x 0→ ∃y,y∈lnkL es x∧0≤o.getD y.1.toNat 0∧o.getD y.1.toNat 0+1=o.getD x 0
structure PBq (es:List E) (n q v:Nat) (l:List (Int×Int)) (o:List Int) (Q:List Nat):Prop where
 len:o.length=n
 q0:o.getD q 0=0
 bnd: ∀x,x<n→ -1≤o.getD x 0∧o.getD x 0+cntNeg o≤n-1
 vv:v<n∧0≤o.getD v 0
 qm: ∀a,a∈Q→a<n∧o.getD v 0≤o.getD a 0∧o.getD a 0≤o.getD v 0+1
 srt:Q.Pairwise fun a b=>o.getD a 0≤o.getD b 0
 proc: ∀x,x<n→x≠v→0≤o.getD x 0→x∉Q→o.getD x 0≤o.getD v 0∧ ∀y,y∈lnkL es x→0≤o.getD y.1.toNat 0∧o.getD y.1.toNat 0≤o.getD x 0+1
 par: ∀x,x<n→x≠q→0≤o.getD x 0→ ∃y,y∈lnkL es x∧0≤o.getD y.1.toNat 0∧o.getD y.1.toNat 0+1=o.getD x 0
 dn: ∀y,y∈l→0≤o.getD y.1.toNat 0∧o.getD y.1.toNat 0≤o.getD v 0+1
section
variable {es:List E} {n q v:Nat}
theorem BFq.pop {o:List Int} {Q:List Nat} (h:BFq es n q o (v::Q)):PBq es n q v [] o Q:=by
 have hv:=h.qm v (by simp)
 have hs:=List.pairwise_cons.1 h.srt
 refine ⟨h.len,h.q0,h.bnd,hv,fun a ha=>⟨(h.qm a (by simp [ha])).1,hs.1 a ha,h.gap v a (by simp) (by simp [ha])⟩,hs.2,fun x hx hxv h0 hxQ=> ?_,h.par,by simp⟩
 have:=h.proc x hx h0 (by simp [hxv,hxQ])
 exact ⟨this.1 v (by simp),this.2⟩
theorem PBq.step {l:List (Int×Int)} {s:BS3} (h:PBq es n q v l s.1 s.2.1) {x:Int×Int} (hx:x∈lnkL es v) (hxn:0≤x.1∧x.1<n):PBq es n q v (l++[x]) (stepD v s x).1 (stepD v s x).2.1:=by
 obtain ⟨o,Q,p⟩:=s
 obtain ⟨u,k⟩:=x
 simp only at h hxn
 obtain ⟨w,rfl⟩:=Int.eq_ofNat_of_zero_le hxn.1
 have hw:w<n:=by omega
 obtain ⟨e,he,_,hne,hab⟩:=A2u hx
 have hwv:w≠v:=by rintro rfl; simp only at hab; omega
 unfold stepD
 simp only [Int.toNat_natCast]
 split
 ·rename_i hneg
  have hg:=fun y=>A08 o w (o.getD v 0+1) y (by rw [h.len]; exact hw)
  have hv0:=h.vv.2
  have hgv:(o.set w (o.getD v 0+1)).getD v 0=o.getD v 0:=by rw [hg,if_neg (Ne.symm hwv)]
  have hgo: ∀y,0≤o.getD y 0→(o.set w (o.getD v 0+1)).getD y 0=o.getD y 0:=fun y hy=>by
   rw [hg,if_neg]; rintro rfl; omega
  have hcn:=A4K (o:=o) (u:=w) (x:=o.getD v 0+1) (y:=o.getD w 0) (A0u (by rw [h.len]; exact hw)) hneg (by omega)
  have hqw:q≠w:=by rintro rfl; have:=h.q0; omega
  have hQ0: ∀a,a∈Q→0≤o.getD a 0:=fun a ha=>by have:=h.qm a ha; omega
  show PBq es n q v _ (o.set w (o.getD v 0+1)) (Q++[w])
  refine ⟨by rw [List.length_set]; exact h.len,by rw [hg,if_neg hqw]; exact h.q0,fun x hx=> ?_,⟨h.vv.1,by rw [hgv]; exact hv0⟩,fun a ha=> ?_,?_,fun x hxn hxv h0 hxQ=> ?_,fun x hxn hxq h0=> ?_,fun y hy=> ?_⟩
  ·have h1:=h.bnd x hx
   have h2:=h.bnd v h.vv.1
   rw [hg]
   by_cases e:x=w
   ·rw [if_pos e]; omega
   ·rw [if_neg e]; omega
  ·rw [hgv]
   rcases List.mem_append.1 ha with ha | ha
   ·rw [hgo a (hQ0 a ha)]; exact h.qm a ha
   ·rw [List.mem_singleton.1 ha,hg,if_pos rfl]; exact ⟨hw,by omega,Int.le_refl _⟩
  ·rw [List.pairwise_append]
   refine ⟨h.srt.imp_of_mem fun {a b} ha hb hab=>by rw [hgo a (hQ0 a ha),hgo b (hQ0 b hb)]; exact hab,by simp,fun a ha b hb=> ?_⟩
   rw [List.mem_singleton.1 hb,hgo a (hQ0 a ha),hg w,if_pos rfl]
   exact (h.qm a ha).2.2
  ·have hxw:x≠w:=fun e=>hxQ (by rw [e]; simp)
   rw [hg,if_neg hxw] at h0 ⊢
   rw [hgv]
   obtain ⟨q1,q2⟩:=h.proc x hxn hxv h0 fun hm=>hxQ (List.mem_append_left _ hm)
   refine ⟨q1,fun y hy=> ?_⟩
   have:=q2 y hy
   rw [hgo _ this.1]; exact this
  ·by_cases hxw:x=w
   ·subst hxw
    refine ⟨((v:Nat),k),B8x hx,?_,?_⟩
    ·simp only [Int.toNat_natCast]; rw [hgv]; exact hv0
    ·simp only [Int.toNat_natCast]; rw [hgv,hg,if_pos rfl]
   ·rw [hg,if_neg hxw] at h0 ⊢
    obtain ⟨y,y1,y2,y3⟩:=h.par x hxn hxq h0
    exact ⟨y,y1,by rw [hgo _ y2]; exact y2,by rw [hgo _ y2]; exact y3⟩
  ·rw [hgv]
   rcases List.mem_append.1 hy with hy | hy
   ·have:=h.dn y hy
    rw [hgo _ this.1]; exact this
   ·rw [List.mem_singleton.1 hy]
    simp only [Int.toNat_natCast]
    rw [hg,if_pos rfl]; omega
 ·rename_i hneg
  refine { h with dn:=fun y hy=> ?_ }
  rcases List.mem_append.1 hy with hy | hy
  ·exact h.dn y hy
  ·rw [List.mem_singleton.1 hy]
   simp only [Int.toNat_natCast]
   refine ⟨by omega,?_⟩
   by_cases hm:w∈Q
   ·exact (h.qm w hm).2.2
   ·have:=(h.proc w hw hwv (by omega) hm).1; omega
theorem PBq.all {s:BS3} (hn: ∀x,x∈lnkL es v→0≤x.1∧x.1<n) (h:PBq es n q v [] s.1 s.2.1): ∀j,j≤(lnkL es v).length→PBq es n q v ((lnkL es v).take j) (((lnkL es v).take j).foldl (stepD v) s).1 (((lnkL es v).take j).foldl (stepD v) s).2.1
 | 0,_=>h
 | j+1,hj=>by
  have hlt:j<(lnkL es v).length:=by omega
  have hm:=List.getElem_mem hlt
  have ih:=PBq.all hn h j (by omega)
  rw [List.take_succ_eq_append_getElem hlt,List.foldl_append]
  exact ih.step hm (hn _ hm)
theorem PBq.done {o:List Int} {Q:List Nat} (h:PBq es n q v (lnkL es v) o Q):BFq es n q o Q:=by
 refine ⟨h.len,h.q0,h.bnd,fun a ha=>⟨(h.qm a ha).1,by have:=h.qm a ha; have:=h.vv; omega⟩,h.srt,fun a b ha hb=>by have:=h.qm a ha; have:=h.qm b hb; omega,fun x hx h0 hxQ=> ?_,h.par⟩
 by_cases e:x=v
 ·subst e; exact ⟨fun a ha=>(h.qm a ha).2.1,h.dn⟩
 ·have:=h.proc x hx e h0 hxQ
  exact ⟨fun a ha=>Int.le_trans this.1 (h.qm a ha).2.1,this.2⟩
theorem B5u (v:Nat) (s:BS3) (x:Int×Int) (h:0≤s.1.getD v 0) (hx:x.1.toNat<s.1.length):2*cntNeg (stepD v s x).1+(stepD v s x).2.1.length≤2*cntNeg s.1+s.2.1.length:=by
 unfold stepD
 split
 ·rename_i hneg
  have:=A4K (o:=s.1) (u:=x.1.toNat) (x:=s.1.getD v 0+1) (A0u hx) hneg (by omega)
  simp only [List.length_append,List.length_singleton]; omega
 ·exact Nat.le_refl _
theorem PBq.cnt {s:BS3} (hn: ∀x,x∈lnkL es v→0≤x.1∧x.1<n) (h:PBq es n q v [] s.1 s.2.1): ∀j,j≤(lnkL es v).length→2*cntNeg (((lnkL es v).take j).foldl (stepD v) s).1+(((lnkL es v).take j).foldl (stepD v) s).2.1.length≤2*cntNeg s.1+s.2.1.length
 | 0,_=>Nat.le_refl _
 | j+1,hj=>by
  have hlt:j<(lnkL es v).length:=by omega
  have hm:=List.getElem_mem hlt
  have ih:=PBq.cnt hn h j (by omega)
  have hp:=h.all hn j (by omega)
  rw [List.take_succ_eq_append_getElem hlt,List.foldl_append]
  refine Nat.le_trans (B5u v _ _ hp.vv.2 (by rw [hp.len]; have:=hn _ hm; omega)) ih
theorem B3N (v:Nat) (s:BS3) {j:Nat} {x:Int×Int} (h:(lnkL es v)[j]? =some x):((lnkL es v).take (j+1)).foldl (stepD v) s=stepD v (((lnkL es v).take j).foldl (stepD v) s) x:=by
 rw [take_snoc h,List.foldl_append]; rfl
theorem B09 (v:Nat): ∀(l:List (Int×Int)) (s:BS3),(l.foldl (stepD v) s).1.length=s.1.length
 | [],_=>rfl
 | x::l,s=>by
  rw [List.foldl_cons,B09 v l]
  unfold stepD
  split
  ·simp only [List.length_set]
  ·rfl
inductive DEnd (es:List E):BS3→List Int→Nat→Prop where
 | stop {o:List Int} {p:Nat}:DEnd es (o,[],p) o p
 | go {o B:List Int} {v:Nat} {Q:List Nat} {p pB:Nat}:DEnd es (B4l es v (o,Q,p)) B pB→DEnd es (o,v::Q,p) B pB
theorem B9N (hn: ∀(v:Nat) x,x∈lnkL es v→0≤x.1∧x.1<n): ∀(f:Nat) (s:BS3),2*cntNeg s.1+s.2.1.length≤f→BFq es n q s.1 s.2.1→ ∃B pB,DEnd es s B pB∧BFq es n q B []:=by
 intro f
 induction f with
 | zero=>
  rintro ⟨o,Q,p⟩ hc h
  simp only at hc h
  cases Q with
  | nil=>exact ⟨o,p,.stop,h⟩
  | cons v Q=>simp at hc
 | succ f ih=>
  rintro ⟨o,Q,p⟩ hc h
  simp only at hc h
  cases Q with
  | nil=>exact ⟨o,p,.stop,h⟩
  | cons v Q=>
   have hp:=h.pop
   have hd:=PBq.all (s:=(o,Q,p)) (hn v) hp _ (Nat.le_refl _)
   have hct:=PBq.cnt (s:=(o,Q,p)) (hn v) hp _ (Nat.le_refl _)
   rw [List.take_length] at hd hct
   obtain ⟨B,pB,b1,b2⟩:=ih (B4l es v (o,Q,p)) (by unfold B4l; simp only [List.length_cons] at hc; simp only at hct; omega) hd.done
   exact ⟨B,pB,.go b1,b2⟩
end
def A6W (n q:Nat):List Int:=(List.replicate n (-1)).set q 0
theorem B3O (n:Nat):cntNeg (List.replicate n (-1))=n:=by
 induction n with
 | zero=>rfl
 | succ n ih=>unfold cntNeg at ih ⊢; rw [List.replicate_succ,List.countP_cons,ih]; simp
theorem B2E {es:List E} {n q:Nat} (hq:q<n):BFq es n q (A6W n q) [q]:=by
 have hrl:(List.replicate n (-1):List Int).length=n:=by simp
 have hg: ∀x,(A6W n q).getD x 0=if x=q then 0 else (List.replicate n (-1)).getD x 0:=fun x=>A08 _ q 0 x (by rw [hrl]; exact hq)
 have hr: ∀x,x<n→(List.replicate n (-1):List Int).getD x 0= -1:=fun x hx=>by
  rw [List.getD_eq_getElem?_getD,List.getElem?_replicate,if_pos hx]; rfl
 have hc:=A4K (o:=List.replicate n (-1)) (u:=q) (x:=0) (y:= -1) (by rw [List.getElem?_replicate,if_pos hq]) (by decide) (by decide)
 rw [B3O] at hc
 have hc':cntNeg (A6W n q)+1=n:=hc
 have hneg: ∀x,x<n→0≤(A6W n q).getD x 0→x=q:=fun x hx h0=>by
  refine Classical.byContradiction fun e=> ?_
  rw [hg,if_neg e,hr x hx] at h0; omega
 refine ⟨by simp [A6W],by rw [hg,if_pos rfl],fun x hx=> ?_,fun a ha=> ?_,by simp,fun a b ha hb=> ?_,fun x hx h0 hxQ=> ?_,fun x hx hxq h0=> ?_⟩
 ·rw [hg]
  by_cases e:x=q
  ·rw [if_pos e]; omega
  ·rw [if_neg e,hr x hx]; omega
 ·rw [List.mem_singleton.1 ha,hg,if_pos rfl]; exact ⟨hq,Int.le_refl _⟩
 ·rw [List.mem_singleton.1 ha,List.mem_singleton.1 hb]; omega
 ·exact absurd (by rw [hneg x hx h0]; simp) hxQ
 ·exact absurd (hneg x hx h0) hxq
end Go.Proofs.Ytdhfgihnoimoaaa
