/- A part of the proof. -/
import Derived.Test.YtdbdfkohpjefjaaGreatPart20
import Derived.Test.YtdbdfkohpjefjaaGreatPart18
import Derived.Test.YtdbdfkohpjefjaaGreatPart19
set_option linter.all false
set_option maxHeartbeats 4000000
set_option maxRecDepth 100000
namespace Go.Proofs.YtdbdfkohpjefjaaGreat
open Go.Sp
section
variable {N:Nat} {f:Nat->Nat}
end
section
variable {J:List (Int×Int)}
end
structure Rib (r:R):Prop where
 ok:ROk r
 pos:0<(endsL r.es).length
 few:(endsL r.es).length≤50
 fac:(facesR r).length≤12
section
variable {r:R}
end
section
variable {r:R}
end
def A1R:List Int->List Int->Bool
 | [],[]=>false
 | [],_::_=>true
 | _::_,[]=>false
 | a::us,b::vs=>if a=b then A1R us vs else decide (a<b)
def A2j: ∀a b:List Int,A1R a b=true->A1R b a=false
 | [],[],h=>by simp [A1R] at h
 | [],_::_,_=>rfl
 | _::_,[],h=>by simp [A1R] at h
 | a::us,b::vs,h=>by
  simp only [A1R] at h ⊢;by_cases e:a=b
  ·rw [if_pos e] at h; rw [if_pos e.symm]; exact A2j us vs h
  ·rw [if_neg e] at h; rw [if_neg (fun x=>e x.symm)];rw [decide_eq_true_eq] at h; rw [decide_eq_false_iff_not]; omega
def B1D: ∀a b:List Int,A1R a b=false->A1R b a=false->a=b
 | [],[],_,_=>rfl
 | [],_::_,h,_=>by simp [A1R] at h
 | _::_,[],_,h=>by simp [A1R] at h
 | a::us,b::vs,h,h2=>by
  simp only [A1R] at h h2;by_cases e:a=b
  ·rw [if_pos e] at h; rw [if_pos e.symm] at h2; rw [e,B1D us vs h h2]
  ·rw [if_neg e] at h; rw [if_neg (fun x=>e x.symm)] at h2;rw [decide_eq_false_iff_not] at h h2; omega
def A3Z: ∀a b c:List Int,A1R b a=false->A1R c b=false->A1R c a=false
 | [],_,[],_,_=>rfl
 | _::_,[],[],h,_=>by simp [A1R] at h
 | a::us,_,[],h,h2=>by
  rename_i x;cases x with
  | nil=>simp [A1R] at h
  | cons b vs=>simp [A1R] at h2
 | [],_,_::_,_,_=>rfl
 | a::us,[],c::ws,h,h2=>by simp [A1R] at h
 | a::us,b::vs,c::ws,h,h2=>by
  simp only [A1R] at h h2 ⊢;by_cases e1:b=a
  ·subst e1;rw [if_pos rfl] at h;by_cases e2:c=b
   ·rw [if_pos e2] at h2 ⊢; exact A3Z us vs ws h h2
   ·rw [if_neg e2] at h2 ⊢; exact h2
  ·rw [if_neg e1,decide_eq_false_iff_not] at h;by_cases e2:c=b
   ·rw [if_pos e2] at h2;rw [if_neg (by omega),decide_eq_false_iff_not]; omega
   ·rw [if_neg e2,decide_eq_false_iff_not] at h2;rw [if_neg (by omega),decide_eq_false_iff_not]; omega
def B7q (a:List Int):A1R a a=false:=by
 cases h:A1R a a with
 | false=>rfl
 | true=>have:=A2j a a h; rw [h] at this; cases this
def sortLL (l:List (List Int)):List (List Int):=l.mergeSort fun a b=> !A1R b a
def A1q (l:List (List Int)):(sortLL l).Perm l:=List.mergeSort_perm l _
def A97 (l:List (List Int)):(sortLL l).Pairwise fun a b=>A1R b a=false:=by
 have:=List.pairwise_mergeSort (le:=fun a b:List Int=> !A1R b a) (fun a b c h1 h2=>by
  simp only [WQ] at*; exact A3Z a b c h1 h2) (fun a b=>by
  cases h:A1R b a with
  | false=>simp
  | true=>simp [A2j _ _ h]) l
 exact this.imp fun h=>by simpa using h
def A5e {l m:List (List Int)} (hs:m.Pairwise fun a b=>A1R b a=false) (hp:m.Perm l):m=sortLL l:=
 Qj2 (le:=fun a b:List Int=>A1R b a=false) (fun a b _ _ h1 h2=>B1D a b h2 h1) hs (A97 l) (hp.trans (A1q l).symm)
def B3j {l m:List (List Int)} (h:l.Perm m):sortLL l=sortLL m:=(A5e (A97 l) ((A1q l).trans h))
def C0l {S m:List (List Int)} {x:List Int} {k:Nat} (hS:S=sortLL m) (hk:k≤S.length) (h1: ∀j y,k≤j->S[j]? =some y->A1R x y=true) (h2: ∀j y,j+1=k->S[j]? =some y->A1R x y=false):
  S.take k++[x]++S.drop k=sortLL (m++[x]):=by
 have hp:=A97 m;rw [<-hS] at hp;have hp2:=hp;rw [<-Jv k S,Qx4] at hp2;have ha: ∀a,a∈S.take k->A1R x a=false:=fun a ha=>by
  obtain ⟨i,hi,rfl⟩:=List.getElem_of_mem ha;rw [YV] at hi;rw [List.getElem_take];have hkl:k-1<S.length:=by omega
  have h3:=h2 (k-1) S[k-1] (by omega) (Qq hkl);by_cases e:i=k-1
  ·subst e; exact h3
  ·exact A3Z _ _ _ (ZV.1 hp i (k-1) (by omega) hkl (by omega)) h3
 have hb: ∀b,b∈S.drop k->A1R x b=true:=fun b hb=>by
  obtain ⟨i,hi,rfl⟩:=List.getElem_of_mem hb;rw [List.length_drop] at hi;rw [List.getElem_drop];exact h1 (k+i) _ (by omega) (Qq (by omega))
 refine A5e ?_ ?_
 ·rw [Zk,Qx4];refine ⟨hp2.1,?_,?_⟩
  ·rw [List.singleton_append,Wz];exact ⟨fun b hb'=>A2j _ _ (hb b hb'),hp2.2.1⟩
  ·intro a ha' b hb';rcases XY.1 hb' with h | h
   ·obtain rfl:=Zq.1 h; exact ha a ha'
   ·exact A3Z _ _ _ (ha a ha') (A2j _ _ (hb b h))
 ·have e1:(S.take k++[x]++S.drop k).Perm (x::(S.take k++S.drop k)):=by
   rw [Zk,List.singleton_append]; exact List.perm_middle
  rw [Jv] at e1;refine e1.trans ?_;rw [hS];exact ((A1q m).cons x).trans (List.perm_append_singleton x m).symm
def C7I (nums:List Int) (fl:List Bool) (T:List Int) (e:Nat):List Int:=
 (T.set (2*(nums.getD e 0).toNat) (if fl.getD e false=true then 2*(e:Int)+1 else 2*(e:Int))).set (2*(nums.getD e 0).toNat+1) (if fl.getD e false=true then 2*(e:Int) else 2*(e:Int)+1)
def invK (nums:List Int) (fl:List Bool) (k:Nat):List Int:=(List.range k).foldl (C7I nums fl) (List.replicate (2*nums.length) 0)
def flB (m bits:Nat):List Bool:=(List.range m).map fun i=>decide (bits / 2^i%2=1)
def behI (to back:List Int) (k:Nat):List Int:=(List.range back.length).map fun j=>if j<k then to.getD (back.getD j 0).toNat 0 else back.getD j 0
def renL (to:List Int) (l:List Int):List Int:=C6i (l.map fun z=>to.getD z.toNat 0)
section
variable {r:R}
end
def C7w (t:Int) (v:Nat) (d:List Int) (x:Int×Int):List Int:=(d.set v (d.getD v 0-x.2*t)).set x.1.toNat ((d.set v (d.getD v 0-x.2*t)).getD x.1.toNat 0+x.2*t)
def C7x (es:List E) (t:Int) (v:Nat) (d:List Int):List Int:=(lnkL es v).foldl (C7w t v) d
def C4W (es:List E) (t:Int) (R:List Bool):Nat->List Int->List Int
 | 0,d=>d
 | k+1,d=>if R.getD k false=true then C7x es t k (C4W es t R k d) else C4W es t R k d
def C2M (t:Int) (R:List Bool):Nat->List Int->List Int
 | 0,s=>s
 | k+1,s=>if R.getD k false=true then (C2M t R k s).set k ((C2M t R k s).getD k 0+t) else C2M t R k s
def bndL (K:Int) (d:List Int):Prop:= ∀i,-K≤d.getD i 0∧d.getD i 0≤K
def A13 {d:List Int} {i:Nat} (h:i<d.length):d[i]? =some (d.getD i 0):=by
 rw [Qz,Qq h]; rfl
def jnB (es:List E) (R:List Bool) (v:Nat):Int:=joinL (fun u=>R.getD u.toNat false) (lnkL es v)
def C5I (es:List E) (d:List Int) (R:List Bool) (v:Nat):Bool:= !R.getD v false&&decide (d.getD v 0<jnB es R v)
def A2Q (es:List E) (d:List Int) (R:List Bool):Nat->List Bool×Bool
 | 0=>(R,false)
 | k+1=>if C5I es d (A2Q es d R k).1 k=true then ((A2Q es d R k).1.set k true,true) else A2Q es d R k
def A75 (es:List E) (d:List Int) (R:List Bool) (k:Nat):A2Q es d R (k+1)=if C5I es d (A2Q es d R k).1 k=true then ((A2Q es d R k).1.set k true,true) else A2Q es d R k:=rfl
structure Burn (es:List E) (d:List Int) (q:Nat) (R:List Bool) (L:List Nat):Prop where
 nd:L.Nodup
 mem: ∀v,R.getD v false=true↔v∈L
 hd:L[0]? =some q
 ord: ∀i v,1≤i->L[i]? =some v->d.getD v 0<joinL (fun u=>decide (u.toNat∈L.take i)) (lnkL es v)
def C7y (es:List E) (d:List Int) (q:Nat) (R:List Bool):Prop:= ∃L,Burn es d q R L
def A5f (es:List E) (d:List Int) (R:List Bool): ∀k,(A2Q es d R k).1.length=R.length
 | 0=>rfl
 | k+1=>by
  rw [A75];split
  ·simp only [Yw]; exact A5f es d R k
  ·exact A5f es d R k
def C4X (R:List Bool):Nat:=R.countP fun b=> !b
def B5S: ∀{R:List Bool} {k:Nat},R[k]? =some false->C4X (R.set k true)+1=C4X R
 | [],k,h=>by simp at h
 | b::R,0,h=>by simp at h; subst h; simp [C4X]
 | b::R,k+1,h=>by
  have:=B5S (R:=R) (k:=k) (by simpa using h);unfold C4X at this ⊢;simp only [List.set_cons_succ,Qq9];omega
def B3k (es:List E) (d:List Int) (R:List Bool): ∀k,k≤R.length->C4X (A2Q es d R k).1+(if (A2Q es d R k).2=true then 1 else 0)≤C4X R∧((A2Q es d R k).2=false->(A2Q es d R k).1=R∧ ∀v,v<k->C5I es d R v=false)
 | 0,_=>⟨by simp [A2Q],fun _=>⟨rfl,fun v hv=>by omega⟩⟩
 | k+1,hk=>by
  obtain ⟨h1,h2⟩:=B3k es d R k (by omega);rw [A75];split
  ·rename_i hm;refine ⟨?_,fun h=>by cases h⟩;have hm2:=hm;unfold C5I at hm2;simp only [XJ,WQ,decide_eq_true_eq] at hm2;have:=B5S (R:=(A2Q es d R k).1) (k:=k) (by rw [A6I (by rw [A5f]; omega),hm2.1]);simp only [if_true];split at h1<;>omega
  ·rename_i hm;rw [Qx0] at hm;refine ⟨h1,fun h=> ?_⟩;obtain ⟨e,h3⟩:=h2 h;refine ⟨e,fun v hv=> ?_⟩;by_cases hvk:v=k
   ·subst hvk; rw [e] at hm; exact hm
   ·exact h3 v (by omega)
def A6L (R:List Bool) (k:Nat):Bool:=(List.range k).any fun v=> !R.getD v false
def B2b (R:List Bool) (n k:Nat):List Bool:=(List.range n).map fun v=>decide (v<k)&& !R.getD v false
def A8t (R:List Bool) (n k:Nat):(B2b R n k).length=n:=by simp [B2b]
def B5T (R:List Bool) (n k i:Nat):(B2b R n k)[i]? =if i<n then some (decide (i<k)&& !R.getD i false) else none:=by
 unfold B2b;rw [QW];by_cases h:i<n
 ·rw [if_pos h,Yv h]; rfl
 ·rw [if_neg h,Xx (by simpa using h)]; rfl
def C2N (R:List Bool) {n k:Nat} (hk:k<n):(B2b R n k).set k (!R.getD k false)=B2b R n (k+1):=by
 apply Zx;intro i;rw [Qw9,A8t,B5T,B5T];by_cases e:k=i
 ·subst e;rw [if_pos rfl,if_pos hk,if_pos hk,decide_eq_true (show k<k+1 by omega)]; rfl
 ·rw [if_neg e];by_cases h:i<n
  ·rw [if_pos h,if_pos h,decide_eq_decide.2 (show i<k↔i<k+1 by omega)]
  ·rw [if_neg h,if_neg h]
def B7r (R:List Bool) (k:Nat):A6L R (k+1)=(A6L R k|| !R.getD k false):=by
 unfold A6L; rw [WX,List.any_append]; simp
def C2O (R:List Bool):(bC R).mapM A0a=some (R.map Tree.bool):=by
 induction R with
 | nil=>rfl
 | cons b R ih=>
  unfold bC at ih ⊢;rw [XQ,JZ,ih]; rfl
def C4Y {R:List Bool} {r:List Tree} (h:r∈A44 R):r.length=1:=by
 unfold A44 at h;obtain ⟨b,_,rfl⟩:=QJ.1 h; rfl
def C0m (R:List Bool) (i:Nat) (r:List Tree) (m:Nat) (x:Tree) (h1:(A44 R)[i]? =some r) (h2:r[m]? =some x):(R.map Tree.bool)[i*1+m]? =some x:=by
 unfold A44 at h1;rw [QW] at h1;obtain ⟨b,hb,rfl⟩:=Option.map_eq_some_iff.1 h1;cases m with
 | zero=>simp at h2; subst h2; rw [Wq,Nat.add_zero,QW,hb]; rfl
 | succ m=>simp at h2
inductive BEnd (es:List E) (d:List Int) (n:Nat):List Bool->List Bool->Prop where
 | stop {R:List Bool}:(A2Q es d R n).2=false->BEnd es d n R R
 | go {R B:List Bool}:(A2Q es d R n).2=true->BEnd es d n (A2Q es d R n).1 B->BEnd es d n R B
def A98 (n q:Nat):List Bool:=(List.replicate n false).set q true
def B4H (n q:Nat) (es:List E) (d s:List Int) (h1:1≤n) (h12:n≤12) (hq:q<n) (hd:d.length=n) (hs:s.length=n) (hl:es.length≤40) (hm: ∀e,e∈es->(0≤e.a∧e.a<n)∧(0≤e.b∧e.b<n)∧0≤e.m∧e.m≤50) (B:List Bool) (hB:BEnd es d n (A98 n q) B) (hBl:B.length=n):
  ∃X,ACallH Tryz.prog 163 [.box [.int .i64 (n:Int),.slice (A0f es) .none],.ro [.int .i64 (n:Int),.slice (A0f es)],.box (iC d),.box (iC s),.roC [.tree (.int .i64 (n:Int)),.tree (.slice (A0f es)),.tree (.int .i64 (q:Int)),.ref 2 1 0 n n,.ref 3 1 0 n n,.tree (.int .i64 0)]] [.c (.ptr 4 0)] ([.box [.int .i64 (n:Int),.slice (A0f es) .none],.ro [.int .i64 (n:Int),.slice (A0f es)],.box (iC d),.box (iC s),.roC [.tree (.int .i64 (n:Int)),.tree (.slice (A0f es)),.tree (.int .i64 (q:Int)),.ref 2 1 0 n n,.ref 3 1 0 n n,.tree (.int .i64 0)]]++X) (.tup [.c (.slice (A44 (B2b B n n)) .none),.c (.bool (A6L B n))]):=by
 refine ⟨[.box (bC B),.box [.ref 5 1 0 n n],.ro ((B2b B n n).map Tree.bool)],?_⟩;have hqI:(q:Int)<(n:Int):=by omega
 have hdn:d≠[]:=by intro e; rw [e] at hd; simp at hd; omega
 have hsn:s≠[]:=by intro e; rw [e] at hs; simp at hs; omega
 have hli:(A98 n q).length=n:=by simp [A98]
 have hkb: ∀(v:Nat) u k,(u,k)∈lnkL es v-> ∃w:Nat,u=w∧w<n:=fun v u k hx=>by
  obtain ⟨e,he,e1,_,e2⟩:=A7z hx;have:=hm e he;simp only at e2;exact ⟨u.toNat,by omega,by omega⟩
 have hJ: ∀(R:List Bool) (v:Nat),R.length=n->v<n->ACallH Tryz.prog 161 [.box [.int .i64 (n:Int),.slice (A0f es) .none],.ro [.int .i64 (n:Int),.slice (A0f es)],.box (iC d),.box (iC s),.roC [.tree (.int .i64 (n:Int)),.tree (.slice (A0f es)),.tree (.int .i64 (q:Int)),.ref 2 1 0 n n,.ref 3 1 0 n n,.tree (.int .i64 0)],.box (bC R),.box [.ref 5 1 0 n n]] [.c (.ptr 4 0),.c (.int .i64 (v:Int)),.c (.fn 186 [.ptr 6 0])] [.box [.int .i64 (n:Int),.slice (A0f es) .none],.ro [.int .i64 (n:Int),.slice (A0f es)],.box (iC d),.box (iC s),.roC [.tree (.int .i64 (n:Int)),.tree (.slice (A0f es)),.tree (.int .i64 (q:Int)),.ref 2 1 0 n n,.ref 3 1 0 n n,.tree (.int .i64 0)],.box (bC R),.box [.ref 5 1 0 n n]] (.c (.int .i64 (jnB es R v))):=fun R v hR hv=>
  B9F n q es d s R hdn hsn (by intro e; rw [e] at hR; simp at hR; omega) (by omega) (fun e he=>by have:=hm e he; omega) v (by omega) _ _ fun X u k hx=>by
   obtain ⟨w,rfl,hw⟩:=hkb v u k hx;exact C6v n R hR rfl rfl w hw
 have hr0:=A68 (List.replicate n false) q true;have hrl:(List.replicate n false:List Bool).length=n:=by simp
 have hr0':(bC (List.replicate n false)).set q (.bool true)=bC (A98 n q):=hr0;simp only [List.cons_append,List.nil_append];refine ACallH.of_body Tryz.func163 rfl (by kernel_rfl) ?_;simp only [entry,Tryz.ntmps163,List.length_cons,List.length_nil,Nat.reduceAdd,Nat.reduceSub,List.replicate_succ,List.replicate_zero,List.cons_append,List.nil_append];refine zR (zc @hqI (zc @A3U (zc @hr0' (zc @hrl (zc @A1Y (zc @XX Qv6)))))) Qv6 Qv6 ?_;refine AWp.loopS (α:=(List Bool×Bool)) 85 (fun w=>[(0,.c (.ptr 4 0)),(4,.c (.ptr 6 0)),(5,.c (.fn 186 [.ptr 6 0])),(6,.c (.bool w.2))]) (fun w=>[.box [.int .i64 (n:Int),.slice (A0f es) .none],.ro [.int .i64 (n:Int),.slice (A0f es)],.box (iC d),.box (iC s),.roC [.tree (.int .i64 (n:Int)),.tree (.slice (A0f es)),.tree (.int .i64 (q:Int)),.ref 2 1 0 n n,.ref 3 1 0 n n,.tree (.int .i64 0)],.box (bC w.1),.box [.ref 5 1 0 n n]]) (fun w=>w.1.length=n∧(w.2=true->BEnd es d n w.1 B)∧(w.2=false->w.1=B)) (fun w=>2*C4X w.1+(if w.2=true then 1 else 0)) ((A98 n q,true)) (hk:=Weak.headL 7 85 [0,4,5,6] (zV3 @A1k @A0N @A0H)) (h0:=?_) (round:=fun w hI=>?_)
 ·exact ⟨hli,fun _=>hB,fun h=>by cases h⟩
 ·obtain ⟨R,ag⟩:=w;obtain ⟨hRl,hI1,hI2⟩:=hI;simp only at hRl hI1 hI2 ⊢;cases ag with
  | true=>
   have hE:=hI1 rfl;clear hI1 hI2;have hcnt:=B3k es d R n (by omega);refine zR Qv6 Qv6 Qv6 ?_;refine AWp.loopS (α:=Nat) 85 (fun k=>[(0,.c (.ptr 4 0)),(4,.c (.ptr 6 0)),(5,.c (.fn 186 [.ptr 6 0])),(6,.c (.bool (A2Q es d R k).2)),(29,.c (.int .i64 (n:Int))),(30,.c (.int .i64 (k:Int)))]) (fun k=>[.box [.int .i64 (n:Int),.slice (A0f es) .none],.ro [.int .i64 (n:Int),.slice (A0f es)],.box (iC d),.box (iC s),.roC [.tree (.int .i64 (n:Int)),.tree (.slice (A0f es)),.tree (.int .i64 (q:Int)),.ref 2 1 0 n n,.ref 3 1 0 n n,.tree (.int .i64 0)],.box (bC (A2Q es d R k).1),.box [.ref 5 1 0 n n]]) (fun k=>k≤n) (fun k=>n-k) (0) (hk:=Weak.headL 7 85 [0,4,5,6,29,30] (zV3 @A1k @A0N @A0H)) (h0:=?_) (round:=fun k hI=>?_)
   ·exact Xw _
   ·have hk:k≤n:=hI;clear hI;by_cases hkl:k<n
    ·have hkI:(k:Int)<(n:Int):=by omega
     have hps:=A75 es d R k;have hpl:=A5f es d R k;rw [hRl] at hpl;have hJk:=hJ (A2Q es d R k).1 k hpl hkl;generalize A2Q es d R k=p at*;generalize hp1:A2Q es d R (k+1)=p1 at*;obtain ⟨Rk,ak⟩:=p;simp only at hpl hJk hps ⊢;have hg:=B07 (A6I (R:=Rk) (i:=k) (by omega));have hds:=A64 (A13 (d:=d) (i:=k) (by omega));have hst:=A68 Rk k true;unfold C5I at hps;generalize d.getD k 0=dv at*;generalize jnB es Rk k=jv at*;cases hbk:Rk.getD k false with
     | true=>
      rw [hbk] at hps hg;simp only [VJ,Qq4] at hps;rw [if_neg (by simp)] at hps;refine zR (zc @hkI (zc @hg (zc @A1Y (zc @hpl (zc @XX Qv6))))) Qv6 Qv6 ?_;refine ⟨k+1,Weak.headF 7 85 [0,4,5,6,29,30] (zc @hp1 (zc @hps Qv6)) (zV3 @A1k @A0N @A0H),?_,?_⟩
      ·exact hkl
      ·omega
     | false=>
      rw [hbk] at hps hg;simp only [Qx3,VY,decide_eq_true_eq] at hps;by_cases hlt:dv<jv
      ·rw [if_pos hlt] at hps;refine zJ Qv6 (zc @hkI (zc @hg (zc @hds (zc @hlt (zc @hst (zc @A1Y (zc @A1N (zc @hd (zc @hpl (zc @XX Qv6)))))))))) Qv6 (zc hJk Qv6) Qv6 ?_;refine ⟨k+1,Weak.headF 7 85 [0,4,5,6,29,30] (zc @hp1 (zc @hps Qv6)) (zV3 @A1k @A0N @A0H),?_,?_⟩
       ·exact hkl
       ·omega
      ·rw [if_neg hlt] at hps;refine zJ Qv6 (zc @hkI (zc @hg (zc @hds (zc @hlt (zc @A1Y (zc @A1N (zc @hd (zc @hpl (zc @XX Qv6))))))))) Qv6 (zc hJk Qv6) Qv6 ?_;refine ⟨k+1,Weak.headF 7 85 [0,4,5,6,29,30] (zc @hp1 (zc @hps Qv6)) (zV3 @A1k @A0N @A0H),?_,?_⟩
       ·exact hkl
       ·omega
    ·have hnl: ¬(k:Int)<(n:Int):=by omega
     have ek:k=n:=by omega
     have hpl:=A5f es d R n;rw [ek] at*;refine zR (zc @hnl Qv6) Qv6 Qv6 ?_;refine ⟨A2Q es d R n,Weak.headN 7 85 [0,4,5,6] (zV3 @A1k @A0N @A0H),?_,?_⟩
     ·refine ⟨hpl.trans hRl,fun h=> ?_,fun h=> ?_⟩
      ·cases hE with
       | stop hp=>rw [hp] at h; cases h
       | go hp hE'=>exact hE'
      ·cases hE with
       | stop hp=>exact (hcnt.2 hp).1
       | go hp hE'=>rw [hp] at h; cases h
     ·have h1:=hcnt.1;cases hp2:(A2Q es d R n).2<;>simp [hp2] at h1 ⊢<;>omega
  | false=>
   have hRB:=hI2 rfl;subst hRB;clear hI1 hI2 hB;have hn0:B2b R n 0=List.replicate n false:=by
    apply Qq6
    ·simp [B2b]
    ·intro i h1 h2; simp [B2b]
   have hs0:A6L R 0=false:=rfl;refine zR (zc @A3U (zc @A1Y (zc @hRl Qv6))) Qv6 Qv6 ?_;rw [<-hn0];refine AWp.loopS (α:=Nat) 85 (fun k=>[(0,.c (.ptr 4 0)),(4,.c (.ptr 6 0)),(8,.c (.ref 7 1 0 n n)),(9,.c (.bool (A6L R k))),(63,.c (.int .i64 (n:Int))),(64,.c (.int .i64 (k:Int)))]) (fun k=>[.box [.int .i64 (n:Int),.slice (A0f es) .none],.ro [.int .i64 (n:Int),.slice (A0f es)],.box (iC d),.box (iC s),.roC [.tree (.int .i64 (n:Int)),.tree (.slice (A0f es)),.tree (.int .i64 (q:Int)),.ref 2 1 0 n n,.ref 3 1 0 n n,.tree (.int .i64 0)],.box (bC R),.box [.ref 5 1 0 n n],.box (bC (B2b R n k))]) (fun k=>k≤n) (fun k=>n-k) (0) (hk:=Weak.headL 8 85 [0,4,8,9,63,64] (zV3 @A1k @A0N @A0H)) (h0:=?_) (round:=fun k hI=>?_)
   ·exact Xw _
   ·have hk:k≤n:=hI;clear hI;by_cases hkl:k<n
    ·have hkI:(k:Int)<(n:Int):=by omega
     have hg:=B07 (A6I (R:=R) (i:=k) (by omega));have hns:=C2N R hkl;have hnl:=A8t R n k;have hnl1:=A8t R n (k+1);have hso:=B7r R k;generalize R.getD k false=b at*;have hbs:=A68 (B2b R n k) k (!b);rw [hns] at hbs;have hg2:(bC (B2b R n (k+1)))[k]? =some (.bool (!b)):=by rw [<-hbs]; exact QZ (by rw [A1Y,hnl]; exact hkl)
     generalize hn1:B2b R n (k+1)=N1 at*;generalize B2b R n k=N0 at*;generalize hso1:A6L R (k+1)=S1 at*;cases hS0:A6L R k with
     | true=>
      rw [hS0,Bool.true_or] at hso;refine zR (zc @hkI (zc @hg (zc @hg2 (zc @hbs (zc @A1Y (zc @hRl (zc @hnl (zc @hnl1 (zc @XX Qv6))))))))) Qv6 Qv6 ?_;refine ⟨k+1,Weak.headF 8 85 [0,4,8,9,63,64] (zc @hn1 (zc @hso1 (zc @hso Qv6))) (zV3 @A1k @A0N @A0H),?_,?_⟩
      ·exact hkl
      ·omega
     | false=>
      rw [hS0,Qq3] at hso;refine zR (zc @hkI (zc @hg (zc @hg2 (zc @hbs (zc @A1Y (zc @hRl (zc @hnl (zc @hnl1 (zc @XX Qv6))))))))) Qv6 Qv6 ?_;refine ⟨k+1,Weak.headF 8 85 [0,4,8,9,63,64] (zc @hn1 (zc @hso1 (zc @hso Qv6))) (zV3 @A1k @A0N @A0H),?_,?_⟩
      ·exact hkl
      ·omega
    ·have hnl: ¬(k:Int)<(n:Int):=by omega
     have ek:k=n:=by omega
     have hln:=A8t R n n;rw [ek];rw [ek] at hnl;refine zJ (stop 21) (zc @hnl Qv6) Qv6 Qv6 Qv6 ?_;refine AWp.freezeR 8 7 1 n n rfl rfl (C2O _) (A44 (B2b R n n)) (by rw [A4Z,hln]) (QQ _) (fun r hr=>C4Y hr) (C0m _) ?_;refine zR Qv6 Qv6 Qv6 ?_;simp [A4O,A2c,A0v,A2b,Tryz.results163]
abbrev BS3:=List Int×List Nat×Nat
def stepD (v:Nat) (s:BS3) (x:Int×Int):BS3:=if s.1.getD x.1.toNat 0<0 then (s.1.set x.1.toNat (s.1.getD v 0+1),s.2.1++[x.1.toNat],s.2.2+1) else s
def B7S (es:List E) (v:Nat) (s:BS3):BS3:=(lnkL es v).foldl (stepD v) s
def cntNeg (o:List Int):Nat:=o.countP fun x=>decide (x<0)
def A56: ∀{o:List Int} {u:Nat} {x y:Int},o[u]? =some y->y<0->0≤x->cntNeg (o.set u x)+1=cntNeg o
 | [],u,x,y,h,_,_=>by simp at h
 | a::o,0,x,y,h,h1,h2=>by
  simp at h; subst h;unfold cntNeg;simp only [List.set_cons_zero,Qq9];rw [if_pos (decide_eq_true h1),if_neg (by simpa using h2)]
 | a::o,u+1,x,y,h,h1,h2=>by
  have:=A56 (o:=o) (u:=u) (x:=x) (y:=y) (by simpa using h) h1 h2;unfold cntNeg at this ⊢;simp only [List.set_cons_succ,Qq9];omega
def A5g (o:List Int) (k:Nat) (x:Int) (v:Nat) (hk:k<o.length):(o.set k x).getD v 0=if v=k then x else o.getD v 0:=by
 rw [Qz,Qw9];by_cases e:k=v
 ·subst e; rw [if_pos rfl,if_pos hk,if_pos rfl]; rfl
 ·rw [if_neg e,if_neg (fun h=>e h.symm),Qz]
def C4Z {es:List E} {v:Int} {x:Int×Int} (h:x∈lnkL es v):(v,x.2)∈lnkL es x.1:=by
 obtain ⟨e,he,h1,h2,h3⟩:=A7z h;unfold lnkL;rw [List.mem_filterMap];refine ⟨e,he,?_⟩;unfold C1Y;rcases h3 with ⟨h3,h4⟩ | ⟨h3,h4⟩
 ·rw [if_pos ⟨h2,.inr h4.symm⟩,h1,h4,<-h3]; congr 2; omega
 ·rw [if_pos ⟨h2,.inl h4.symm⟩,h1,h4,<-h3]; congr 2; omega
structure BFq (es:List E) (n q:Nat) (o:List Int) (Q:List Nat):Prop where
 len:o.length=n
 q0:o.getD q 0=0
 bnd: ∀x,x<n-> -1≤o.getD x 0∧o.getD x 0+cntNeg o≤n-1
 qm: ∀a,a∈Q->a<n∧0≤o.getD a 0
 srt:Q.Pairwise fun a b=>o.getD a 0≤o.getD b 0
 gap: ∀a b,a∈Q->b∈Q->o.getD b 0≤o.getD a 0+1
 proc: ∀x,x<n->0≤o.getD x 0->x∉Q->(∀a,a∈Q->o.getD x 0≤o.getD a 0)∧ ∀y,y∈lnkL es x->0≤o.getD y.1.toNat 0∧o.getD y.1.toNat 0≤o.getD x 0+1
 par: ∀x,x<n->x≠q->0≤o.getD x 0-> ∃y,y∈lnkL es x∧0≤o.getD y.1.toNat 0∧o.getD y.1.toNat 0+1=o.getD x 0
structure PBq (es:List E) (n q v:Nat) (l:List (Int×Int)) (o:List Int) (Q:List Nat):Prop where
 len:o.length=n
 q0:o.getD q 0=0
 bnd: ∀x,x<n-> -1≤o.getD x 0∧o.getD x 0+cntNeg o≤n-1
 vv:v<n∧0≤o.getD v 0
 qm: ∀a,a∈Q->a<n∧o.getD v 0≤o.getD a 0∧o.getD a 0≤o.getD v 0+1
 srt:Q.Pairwise fun a b=>o.getD a 0≤o.getD b 0
 proc: ∀x,x<n->x≠v->0≤o.getD x 0->x∉Q->o.getD x 0≤o.getD v 0∧ ∀y,y∈lnkL es x->0≤o.getD y.1.toNat 0∧o.getD y.1.toNat 0≤o.getD x 0+1
 par: ∀x,x<n->x≠q->0≤o.getD x 0-> ∃y,y∈lnkL es x∧0≤o.getD y.1.toNat 0∧o.getD y.1.toNat 0+1=o.getD x 0
 dn: ∀y,y∈l->0≤o.getD y.1.toNat 0∧o.getD y.1.toNat 0≤o.getD v 0+1
section
variable {es:List E} {n q v:Nat}
def BFq.pop {o:List Int} {Q:List Nat} (h:BFq es n q o (v::Q)):PBq es n q v [] o Q:=by
 have hv:=h.qm v (by simp);have hs:=Wz.1 h.srt;refine ⟨h.len,h.q0,h.bnd,hv,fun a ha=>⟨(h.qm a (by simp [ha])).1,hs.1 a ha,h.gap v a (by simp) (by simp [ha])⟩,hs.2,fun x hx hxv h0 hxQ=> ?_,h.par,by simp⟩;have:=h.proc x hx h0 (by simp [hxv,hxQ]);exact ⟨this.1 v (by simp),this.2⟩
def PBq.step {l:List (Int×Int)} {s:BS3} (h:PBq es n q v l s.1 s.2.1) {x:Int×Int} (hx:x∈lnkL es v) (hxn:0≤x.1∧x.1<n):PBq es n q v (l++[x]) (stepD v s x).1 (stepD v s x).2.1:=by
 obtain ⟨o,Q,p⟩:=s;obtain ⟨u,k⟩:=x;simp only at h hxn;obtain ⟨w,rfl⟩:=XV hxn.1;have hw:w<n:=by omega
 obtain ⟨e,he,_,hne,hab⟩:=A7z hx;have hwv:w≠v:=by rintro rfl; simp only at hab; omega
 unfold stepD;simp only [Int.toNat_natCast];split
 ·rename_i hneg;have hg:=fun y=>A5g o w (o.getD v 0+1) y (by rw [h.len]; exact hw);have hv0:=h.vv.2;have hgv:(o.set w (o.getD v 0+1)).getD v 0=o.getD v 0:=by rw [hg,if_neg (Ne.symm hwv)]
  have hgo: ∀y,0≤o.getD y 0->(o.set w (o.getD v 0+1)).getD y 0=o.getD y 0:=fun y hy=>by
   rw [hg,if_neg]; rintro rfl; omega
  have hcn:=A56 (o:=o) (u:=w) (x:=o.getD v 0+1) (y:=o.getD w 0) (A13 (by rw [h.len]; exact hw)) hneg (by omega);have hqw:q≠w:=by rintro rfl; have:=h.q0; omega
  have hQ0: ∀a,a∈Q->0≤o.getD a 0:=fun a ha=>by have:=h.qm a ha; omega
  show PBq es n q v _ (o.set w (o.getD v 0+1)) (Q++[w]);refine ⟨by rw [Yw]; exact h.len,by rw [hg,if_neg hqw]; exact h.q0,fun x hx=> ?_,⟨h.vv.1,by rw [hgv]; exact hv0⟩,fun a ha=> ?_,?_,fun x hxn hxv h0 hxQ=> ?_,fun x hxn hxq h0=> ?_,fun y hy=> ?_⟩
  ·have h1:=h.bnd x hx;have h2:=h.bnd v h.vv.1;rw [hg];by_cases e:x=w
   ·rw [if_pos e]; omega
   ·rw [if_neg e]; omega
  ·rw [hgv];rcases XY.1 ha with ha | ha
   ·rw [hgo a (hQ0 a ha)]; exact h.qm a ha
   ·rw [Zq.1 ha,hg,if_pos rfl]; exact ⟨hw,by omega,WW _⟩
  ·rw [Qx4];refine ⟨h.srt.imp_of_mem fun {a b} ha hb hab=>by rw [hgo a (hQ0 a ha),hgo b (hQ0 b hb)]; exact hab,by simp,fun a ha b hb=> ?_⟩;rw [Zq.1 hb,hgo a (hQ0 a ha),hg w,if_pos rfl];exact (h.qm a ha).2.2
  ·have hxw:x≠w:=fun e=>hxQ (by rw [e]; simp);rw [hg,if_neg hxw] at h0 ⊢;rw [hgv];obtain ⟨q1,q2⟩:=h.proc x hxn hxv h0 fun hm=>hxQ (Qw4 _ hm);refine ⟨q1,fun y hy=> ?_⟩;have:=q2 y hy;rw [hgo _ this.1]; exact this
  ·by_cases hxw:x=w
   ·subst hxw;refine ⟨((v:Nat),k),C4Z hx,?_,?_⟩
    ·simp only [Int.toNat_natCast]; rw [hgv]; exact hv0
    ·simp only [Int.toNat_natCast]; rw [hgv,hg,if_pos rfl]
   ·rw [hg,if_neg hxw] at h0 ⊢;obtain ⟨y,y1,y2,y3⟩:=h.par x hxn hxq h0;exact ⟨y,y1,by rw [hgo _ y2]; exact y2,by rw [hgo _ y2]; exact y3⟩
  ·rw [hgv];rcases XY.1 hy with hy | hy
   ·have:=h.dn y hy;rw [hgo _ this.1]; exact this
   ·rw [Zq.1 hy];simp only [Int.toNat_natCast];rw [hg,if_pos rfl]; omega
 ·rename_i hneg;refine { h with dn:=fun y hy=> ?_ };rcases XY.1 hy with hy | hy
  ·exact h.dn y hy
  ·rw [Zq.1 hy];simp only [Int.toNat_natCast];refine ⟨by omega,?_⟩;by_cases hm:w∈Q
   ·exact (h.qm w hm).2.2
   ·have:=(h.proc w hw hwv (by omega) hm).1; omega
def PBq.all {s:BS3} (hn: ∀x,x∈lnkL es v->0≤x.1∧x.1<n) (h:PBq es n q v [] s.1 s.2.1): ∀j,j≤(lnkL es v).length->PBq es n q v ((lnkL es v).take j) (((lnkL es v).take j).foldl (stepD v) s).1 (((lnkL es v).take j).foldl (stepD v) s).2.1
 | 0,_=>h
 | j+1,hj=>by
  have hlt:j<(lnkL es v).length:=by omega
  have hm:=Xk hlt;have ih:=PBq.all hn h j (by omega);rw [XZ hlt,Qw1];exact ih.step hm (hn _ hm)
def PBq.done {o:List Int} {Q:List Nat} (h:PBq es n q v (lnkL es v) o Q):BFq es n q o Q:=by
 refine ⟨h.len,h.q0,h.bnd,fun a ha=>⟨(h.qm a ha).1,by have:=h.qm a ha; have:=h.vv; omega⟩,h.srt,fun a b ha hb=>by have:=h.qm a ha; have:=h.qm b hb; omega,fun x hx h0 hxQ=> ?_,h.par⟩;by_cases e:x=v
 ·subst e; exact ⟨fun a ha=>(h.qm a ha).2.1,h.dn⟩
 ·have:=h.proc x hx e h0 hxQ;exact ⟨fun a ha=>Qw8 this.1 (h.qm a ha).2.1,this.2⟩
def C0n (v:Nat) (s:BS3) (x:Int×Int) (h:0≤s.1.getD v 0) (hx:x.1.toNat<s.1.length):2*cntNeg (stepD v s x).1+(stepD v s x).2.1.length≤2*cntNeg s.1+s.2.1.length:=by
 unfold stepD;split
 ·rename_i hneg;have:=A56 (o:=s.1) (u:=x.1.toNat) (x:=s.1.getD v 0+1) (A13 hx) hneg (by omega);simp only [Xv,List.length_singleton]; omega
 ·exact QQ _
def PBq.cnt {s:BS3} (hn: ∀x,x∈lnkL es v->0≤x.1∧x.1<n) (h:PBq es n q v [] s.1 s.2.1): ∀j,j≤(lnkL es v).length->2*cntNeg (((lnkL es v).take j).foldl (stepD v) s).1+(((lnkL es v).take j).foldl (stepD v) s).2.1.length≤2*cntNeg s.1+s.2.1.length
 | 0,_=>QQ _
 | j+1,hj=>by
  have hlt:j<(lnkL es v).length:=by omega
  have hm:=Xk hlt;have ih:=PBq.cnt hn h j (by omega);have hp:=h.all hn j (by omega);rw [XZ hlt,Qw1];refine Yj (C0n v _ _ hp.vv.2 (by rw [hp.len]; have:=hn _ hm; omega)) ih
def B7s (v:Nat) (s:BS3) {j:Nat} {x:Int×Int} (h:(lnkL es v)[j]? =some x):((lnkL es v).take (j+1)).foldl (stepD v) s=stepD v (((lnkL es v).take j).foldl (stepD v) s) x:=by
 rw [take_snoc h,Qw1]; rfl
def B3l (v:Nat): ∀(l:List (Int×Int)) (s:BS3),(l.foldl (stepD v) s).1.length=s.1.length
 | [],_=>rfl
 | x::l,s=>by
  rw [List.foldl_cons,B3l v l];unfold stepD;split
  ·simp only [Yw]
  ·rfl
inductive DEnd (es:List E):BS3->List Int->Nat->Prop where
 | stop {o:List Int} {p:Nat}:DEnd es (o,[],p) o p
 | go {o B:List Int} {v:Nat} {Q:List Nat} {p pB:Nat}:DEnd es (B7S es v (o,Q,p)) B pB->DEnd es (o,v::Q,p) B pB
def C7J (hn: ∀(v:Nat) x,x∈lnkL es v->0≤x.1∧x.1<n): ∀(f:Nat) (s:BS3),2*cntNeg s.1+s.2.1.length≤f->BFq es n q s.1 s.2.1-> ∃B pB,DEnd es s B pB∧BFq es n q B []:=by
 intro f
 induction f with
 | zero=>
  rintro ⟨o,Q,p⟩ hc h;simp only at hc h;cases Q with
  | nil=>exact ⟨o,p,.stop,h⟩
  | cons v Q=>simp at hc
 | succ f ih=>
  rintro ⟨o,Q,p⟩ hc h;simp only at hc h;cases Q with
  | nil=>exact ⟨o,p,.stop,h⟩
  | cons v Q=>
   have hp:=h.pop;have hd:=PBq.all (s:=(o,Q,p)) (hn v) hp _ (QQ _);have hct:=PBq.cnt (s:=(o,Q,p)) (hn v) hp _ (QQ _);rw [Zy] at hd hct;obtain ⟨B,pB,b1,b2⟩:=ih (B7S es v (o,Q,p)) (by unfold B7S; simp only [List.length_cons] at hc; simp only at hct; omega) hd.done;exact ⟨B,pB,.go b1,b2⟩
end
def A7Z (n q:Nat):List Int:=(List.replicate n (-1)).set q 0
def B7t (n:Nat):cntNeg (List.replicate n (-1))=n:=by
 induction n with
 | zero=>rfl
 | succ n ih=>unfold cntNeg at ih ⊢; rw [List.replicate_succ,Qq9,ih]; simp
def B5U {es:List E} {n q:Nat} (hq:q<n):BFq es n q (A7Z n q) [q]:=by
 have hrl:(List.replicate n (-1):List Int).length=n:=by simp
 have hg: ∀x,(A7Z n q).getD x 0=if x=q then 0 else (List.replicate n (-1)).getD x 0:=fun x=>A5g _ q 0 x (by rw [hrl]; exact hq)
 have hr: ∀x,x<n->(List.replicate n (-1):List Int).getD x 0= -1:=fun x hx=>by
  rw [Qz,Qx5,if_pos hx]; rfl
 have hc:=A56 (o:=List.replicate n (-1)) (u:=q) (x:=0) (y:= -1) (by rw [Qx5,if_pos hq]) (by decide) (by decide);rw [B7t] at hc;have hc':cntNeg (A7Z n q)+1=n:=hc;have hneg: ∀x,x<n->0≤(A7Z n q).getD x 0->x=q:=fun x hx h0=>by
  refine Xq fun e=> ?_;rw [hg,if_neg e,hr x hx] at h0; omega
 refine ⟨by simp [A7Z],by rw [hg,if_pos rfl],fun x hx=> ?_,fun a ha=> ?_,by simp,fun a b ha hb=> ?_,fun x hx h0 hxQ=> ?_,fun x hx hxq h0=> ?_⟩
 ·rw [hg];by_cases e:x=q
  ·rw [if_pos e]; omega
  ·rw [if_neg e,hr x hx]; omega
 ·rw [Zq.1 ha,hg,if_pos rfl]; exact ⟨hq,WW _⟩
 ·rw [Zq.1 ha,Zq.1 hb]; omega
 ·exact absurd (by rw [hneg x hx h0]; simp) hxQ
 ·exact absurd (hneg x hx h0) hxq
section
variable {n:Nat} {M:Nat->Nat->Int}
structure GI (n:Nat) (M:Nat->Nat->Int) (d0:Nat->Int) (U C:Int) (s:Nat->Int) (k:Nat) (d:List Int) (b:List Bool):Prop where
 dl:d.length=n
 bl:b.length=n
 s0: ∀v,0≤s v
 led: ∀v,v<n->d.getD v 0=d0 v-lap n M (fun u=> -s u) v
 mark: ∀v,v<n->b.getD v false=decide (0<s v)
 sum:sumR s n=k
 top: ∀v,v<n->d.getD v 0≤U
 least: ∀t:Nat->Int,(∀u,0≤t u)->(∀v,v<n->0≤d0 v-lap n M (fun u=> -t u) v)-> ∀v,v<n->s v≤t v
 few:(k:Int)≤C+1
end
end Go.Proofs.YtdbdfkohpjefjaaGreat
