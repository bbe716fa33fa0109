/- A part of the proof. -/
import Derived.Test.YtdbdfkohpjefjaaGreatPart20
import Derived.Test.YtdbdfkohpjefjaaGreatPart21
set_option linter.all false
set_option maxHeartbeats 4000000
set_option maxRecDepth 100000
namespace Go.Proofs.YtdbdfkohpjefjaaGreat
open Go.Sp
structure Rib (r:R):Prop where
 ok:ROk r
 pos:0<(endsL r.es).length
 few:(endsL r.es).length≤50
 fac:(facesR r).length≤12
section
variable {r:R}
end
section
variable {r:R}
end
def A1L:List Int->List Int->Bool
 | [],[]=>false
 | [],_::_=>true
 | _::_,[]=>false
 | a::us,b::vs=>if a=b then A1L us vs else decide (a<b)
def A1J: ∀a b:List Int,A1L a b=true->A1L b a=false
 | [],[],h=>by simp [A1L] at h
 | [],_::_,_=>rfl
 | _::_,[],h=>by simp [A1L] at h
 | a::us,b::vs,h=>by
  simp only [A1L] at h ⊢;by_cases e:a=b
  ·rw [if_pos e] at h; rw [if_pos e.symm]; exact A1J us vs h
  ·rw [if_neg e] at h; rw [if_neg (fun x=>e x.symm)];rw [decide_eq_true_eq] at h; rw [decide_eq_false_iff_not]; omega
def B1S: ∀a b:List Int,A1L a b=false->A1L b a=false->a=b
 | [],[],_,_=>rfl
 | [],_::_,h,_=>by simp [A1L] at h
 | _::_,[],_,h=>by simp [A1L] at h
 | a::us,b::vs,h,h2=>by
  simp only [A1L] at h h2;by_cases e:a=b
  ·rw [if_pos e] at h; rw [if_pos e.symm] at h2; rw [e,B1S us vs h h2]
  ·rw [if_neg e] at h; rw [if_neg (fun x=>e x.symm)] at h2;rw [decide_eq_false_iff_not] at h h2; omega
def A3r: ∀a b c:List Int,A1L b a=false->A1L c b=false->A1L c a=false
 | [],_,[],_,_=>rfl
 | _::_,[],[],h,_=>by simp [A1L] at h
 | a::us,_,[],h,h2=>by
  rename_i x;cases x with
  | nil=>simp [A1L] at h
  | cons b vs=>simp [A1L] at h2
 | [],_,_::_,_,_=>rfl
 | a::us,[],c::ws,h,h2=>by simp [A1L] at h
 | a::us,b::vs,c::ws,h,h2=>by
  simp only [A1L] at h h2 ⊢;by_cases e1:b=a
  ·subst e1;rw [if_pos rfl] at h;by_cases e2:c=b
   ·rw [if_pos e2] at h2 ⊢; exact A3r us vs ws h h2
   ·rw [if_neg e2] at h2 ⊢; exact h2
  ·rw [if_neg e1,decide_eq_false_iff_not] at h;by_cases e2:c=b
   ·rw [if_pos e2] at h2;rw [if_neg (by omega),decide_eq_false_iff_not]; omega
   ·rw [if_neg e2,decide_eq_false_iff_not] at h2;rw [if_neg (by omega),decide_eq_false_iff_not]; omega
def A7A (a:List Int):A1L a a=false:=by
 cases h:A1L a a with
 | false=>rfl
 | true=>have:=A1J a a h; rw [h] at this; cases this
def sortLL (l:List (List Int)):List (List Int):=l.mergeSort fun a b=> !A1L b a
def A1k (l:List (List Int)):(sortLL l).Perm l:=List.mergeSort_perm l _
def A9C (l:List (List Int)):(sortLL l).Pairwise fun a b=>A1L b a=false:=by
 have:=List.pairwise_mergeSort (le:=fun a b:List Int=> !A1L b a) (fun a b c h1 h2=>by
  simp only [Ww] at*; exact A3r a b c h1 h2) (fun a b=>by
  cases h:A1L b a with
  | false=>simp
  | true=>simp [A1J _ _ h]) l
 exact this.imp fun h=>by simpa using h
def A4d {l m:List (List Int)} (hs:m.Pairwise fun a b=>A1L b a=false) (hp:m.Perm l):m=sortLL l:=
 Qj5 (le:=fun a b:List Int=>A1L b a=false) (fun a b _ _ h1 h2=>B1S a b h2 h1) hs (A9C l) (hp.trans (A1k l).symm)
def B3y {l m:List (List Int)} (h:l.Perm m):sortLL l=sortLL m:=(A4d (A9C l) ((A1k l).trans h))
def C0B {S m:List (List Int)} {x:List Int} {k:Nat} (hS:S=sortLL m) (hk:k≤S.length) (h1: ∀j y,k≤j->S[j]? =some y->A1L x y=true) (h2: ∀j y,j+1=k->S[j]? =some y->A1L x y=false):
  S.take k++[x]++S.drop k=sortLL (m++[x]):=by
 have hp:=A9C m;rw [<-hS] at hp;have hp2:=hp;rw [<-WJ k S,Qx9] at hp2;have ha: ∀a,a∈S.take k->A1L x a=false:=fun a ha=>by
  obtain ⟨i,hi,rfl⟩:=List.getElem_of_mem ha;rw [Wk] at hi;rw [List.getElem_take];have hkl:k-1<S.length:=by omega
  have h3:=h2 (k-1) S[k-1] (by omega) (Qq hkl);by_cases e:i=k-1
  ·subst e; exact h3
  ·exact A3r _ _ _ (ZJ.1 hp i (k-1) (by omega) hkl (by omega)) h3
 have hb: ∀b,b∈S.drop k->A1L x b=true:=fun b hb=>by
  obtain ⟨i,hi,rfl⟩:=List.getElem_of_mem hb;rw [List.length_drop] at hi;rw [List.getElem_drop];exact h1 (k+i) _ (by omega) (Qq (by omega))
 refine A4d ?_ ?_
 ·rw [Zv,Qx9];refine ⟨hp2.1,?_,?_⟩
  ·rw [List.singleton_append,Jq];exact ⟨fun b hb'=>A1J _ _ (hb b hb'),hp2.2.1⟩
  ·intro a ha' b hb';rcases XZ.1 hb' with h | h
   ·obtain rfl:=XQ.1 h; exact ha a ha'
   ·exact A3r _ _ _ (ha a ha') (A1J _ _ (hb b h))
 ·have e1:(S.take k++[x]++S.drop k).Perm (x::(S.take k++S.drop k)):=by
   rw [Zv,List.singleton_append]; exact List.perm_middle
  rw [WJ] at e1;refine e1.trans ?_;rw [hS];exact ((A1k m).cons x).trans (List.perm_append_singleton x m).symm
def C8o (nums:List Int) (fl:List Bool) (T:List Int) (e:Nat):List Int:=
 (T.set (2*(nums.getD e 0).toNat) (if fl.getD e false=true then 2*(e:Int)+1 else 2*(e:Int))).set (2*(nums.getD e 0).toNat+1) (if fl.getD e false=true then 2*(e:Int) else 2*(e:Int)+1)
def invK (nums:List Int) (fl:List Bool) (k:Nat):List Int:=(List.range k).foldl (C8o nums fl) (List.replicate (2*nums.length) 0)
def flB (m bits:Nat):List Bool:=(List.range m).map fun i=>decide (bits / 2^i%2=1)
def behI (to back:List Int) (k:Nat):List Int:=(List.range back.length).map fun j=>if j<k then to.getD (back.getD j 0).toNat 0 else back.getD j 0
def renL (to:List Int) (l:List Int):List Int:=C6A (l.map fun z=>to.getD z.toNat 0)
section
variable {r:R}
end
def C3t {b:List Int}:A1L [] b=decide (0<b.length):=by cases b<;>simp [A1L]
def C57 {a:List Int}:A1L a []=false:=by cases a<;>rfl
def C0C (a b:List Int) (ha:a.length<2^40) (hb:b.length<2^40):ACall Tryz.prog 153 [A0k a,A0k b] (A0q (A1L a b)):=by
 refine ACall.of_body Tryz.func153 rfl (by kernel_rfl) ?_;simp only [entry,Tryz.ntmps153,A0k];refine zU ?_;refine zR Qv5 Qv5 Qv5 ?_;refine AWp.loopS (α:=Nat) 41 (fun i=>[(0,.c (.slice (A0l a) .none)),(1,.c (.slice (A0l b) .none)),(5,.c (.int .i64 (i:Int)))]) (fun i=>[]) (fun i=>i≤a.length∧i≤b.length∧A1L a b=A1L (a.drop i) (b.drop i)) (fun i=>a.length-i) (0) (hk:=Weak.headL 0 41 [0,1,5] zW) (h0:=?_) (round:=fun i hI=>?_)
 ·exact ⟨Xj _,Xj _,rfl⟩
 ·obtain ⟨hi,hi2,hx⟩:=hI;by_cases h1:i<a.length
  ·have h1I:(i:Int)<a.length:=by omega
   by_cases h2:i<b.length
   ·have h2I:(i:Int)<b.length:=by omega
    have e0:=Qq h1;have e1:=A0t e0;have f0:=Qq h2;have f1:=A0t f0;rw [Zk h1,Zk h2] at hx;simp only [A1L] at hx;generalize a[i]=x at*;generalize b[i]=y at*;by_cases hxy:x=y
    ·rw [if_pos hxy] at hx;refine zR (zc @h1I (zc @h2I (zc @A0e (zc @e1 (zc @f1 (zc @hxy Qv5)))))) Qv5 Qv5 ?_;refine ⟨i+1,Weak.headN 0 41 [0,1,5] zW,?_,?_⟩
     ·exact ⟨h1,h2,hx⟩
     ·omega
    ·rw [if_neg hxy] at hx;rw [hx];by_cases hlt:x<y
     ·rw [decide_eq_true hlt];refine zR (zc @h1I (zc @h2I (zc @A0e (zc @e1 (zc @f1 (zc @hxy (zc @hlt Qv5))))))) Qv5 Qv5 ?_;simp [A0s,A0r,Blk.cells,ty,Tryz.results153,A0o,A0p,toT,A0d,A0b,A0c,A0a,A0q]
     ·rw [decide_eq_false hlt];refine zR (zc @h1I (zc @h2I (zc @A0e (zc @e1 (zc @f1 (zc @hxy (zc @hlt Qv5))))))) Qv5 Qv5 ?_;simp [A0s,A0r,Blk.cells,ty,Tryz.results153,A0o,A0p,toT,A0d,A0b,A0c,A0a,A0q]
   ·have h2I: ¬((i:Int)<b.length):=by omega
    have e:A1L a b=false:=by rw [hx,VY (show b.length≤i by omega),C57]
    have hab: ¬((a.length:Int)<b.length):=by omega
    rw [e];refine zR (zc @h1I (zc @h2I (zc @A0e (zc @hab Qv5)))) Qv5 Qv5 ?_;simp [A0s,A0r,Blk.cells,ty,Tryz.results153,A0o,A0p,toT,A0d,A0b,A0c,A0a,A0q]
  ·have h1I: ¬((i:Int)<a.length):=by omega
   have ei:i=a.length:=by omega
   have e:A1L a b=decide (0<(b.drop i).length):=by rw [hx,VY (show a.length≤i by omega),C3t]
   rw [List.length_drop] at e;rw [e];by_cases hab:(a.length:Int)<b.length
   ·rw [decide_eq_true (by omega)];refine zR (zc @h1I (zc @A0e (zc @hab Qv5))) Qv5 Qv5 ?_;simp [A0s,A0r,Blk.cells,ty,Tryz.results153,A0o,A0p,toT,A0d,A0b,A0c,A0a,A0q]
   ·rw [decide_eq_false (by omega)];refine zR (zc @h1I (zc @A0e (zc @hab Qv5))) Qv5 Qv5 ?_;simp [A0s,A0r,Blk.cells,ty,Tryz.results153,A0o,A0p,toT,A0d,A0b,A0c,A0a,A0q]
def B4Z (l:List (List Int)) (i:Nat):(A0n l).take i=A0n (l.take i):=by simp [A0n]
def B5a (l:List (List Int)) (i:Nat):(A0n l).drop i=A0n (l.drop i):=by simp [A0n]
def B0W {A:List (List Int)} {x:List Int} {r:List Tree} (h:r∈A0n A++[[Tree.slice (A0l x)]]):r.length=1:=by
 rcases XZ.1 h with h | h
 ·exact A1F h
 ·rw [XQ.1 h]; rfl
def B7H (l:List (List Int)) (hl:l.length<2^30) (hll: ∀x,x∈l->x.length<2^40):ACall Tryz.prog 104 [A05 l] (A05 (sortLL l)):=by
 have hz:sortLL ([]:List (List Int))=[]:=List.Perm.eq_nil (A1k []);refine ACall.of_body Tryz.func104 rfl (by kernel_rfl) ?_;simp only [entry,Tryz.ntmps104,A05];refine zU ?_;refine zJ (stop 2) trivial trivial trivial trivial ?_;refine AWp.weak (Weak.opens ((fun t f=>[f,f,f,t,f,f,f,f,f,f,f,f,f,f,f,f,f,f,f,f,f,f,f,f,f,f,f,f,f,f,f,f,f,f,f,f,f,f,f,f,f,f,f,f,f,f,f,f]) true false) 1 (by first | omega | simp)) ?_;simp only [A2t,A7l,List.length_cons,List.length_nil,Xv,Nat.reduceAdd,List.cons_append,List.nil_append];refine AWp.weak (Weak.untok 3 rfl) ?_;simp only [List.set_cons_succ,List.set_cons_zero];refine zR Qv5 Qv5 Qv5 ?_;refine AWp.loopS (α:=(Nat×List (List Int))) 48 (fun s=>[(0,.c (.slice (A0n l) .none)),(3,.c (.slice (A0n s.2) .none)),(4,.c (.int .i64 (s.1:Int)))]) (fun s=>[]) (fun s=>s.1≤l.length∧s.2=sortLL (l.take s.1)) (fun s=>l.length-s.1) ((0,[])) (hk:=Weak.headL 0 48 [0,3,4] zW) (h0:=?_) (round:=fun s hI=>?_)
 ·exact ⟨Xj _,hz.symm⟩
 ·obtain ⟨i,S⟩:=s;obtain ⟨hi,hS⟩:=hI;simp only at hi hS ⊢;have hSl:S.length=i:=by rw [hS,(A1k _).length_eq,Wk]; omega
  have hSm: ∀y,y∈S->y.length<2^40:=fun y hy=>by
   rw [hS] at hy;exact hll y (JZ ((A1k _).mem_iff.1 hy))
  by_cases hlt:i<l.length
  ·have hltI:(i:Int)<(l.length:Int):=by omega
   have e0:=Qq hlt;have e1:=A0D e0;have hxl:=hll _ (Xw hlt);have hsn:=Xy hlt;generalize l[i]=x at*;have hins:=fun k hk h1 h2=>C0B (x:=x) (k:=k) hS hk h1 h2;rw [<-hsn] at hins;clear hS;refine zR (zc @hltI (zc @A0i Qv5)) Qv5 Qv5 ?_;refine AWp.loopS (α:=Nat) 48 (fun k=>[(0,.c (.slice (A0n l) .none)),(3,.c (.slice (A0n S) .none)),(4,.c (.int .i64 (i:Int))),(5,.c (.int .i64 (k:Int)))]) (fun k=>[]) (fun k=>k≤S.length∧ ∀j y,k≤j->S[j]? =some y->A1L x y=true) (fun k=>k) (S.length) (hk:=Weak.headL 0 48 [0,3,4,5] zW) (h0:=?_) (round:=fun k hI=>?_)
   ·exact ⟨Qk _,fun j y hj hy=>by rw [Xq hj] at hy; cases hy⟩
   ·obtain ⟨hk,hgt⟩:=hI;have hkI:(k:Int)≤(S.length:Int):=by omega
    have hd:(A0n S).drop k=A0n (S.drop k):=B5a S _;have ht:(A0n S).take k=A0n (S.take k):=B4Z S _;have hta:(A0n S).take S.length=A0n S:=Zw (by rw [A0i]; exact Qk _);have hcat:A0n (S.take k)++[[Tree.slice (A0l x)]]++A0n (S.drop k)=A0n (S.take k++[x]++S.drop k):=by simp [A0n]
    have hlA:(S.take k).length=k:=by rw [Wk]; omega
    have hdl:((A0n S).drop k).length=S.length-k:=by rw [List.length_drop,A0i]
    have hlB:(S.drop k).length=S.length-k:=List.length_drop ..;cases k with
    | zero=>
     have hi2:=hins 0 hk hgt (fun j y hj=>by omega);rw [hi2] at hcat;generalize hA:S.take 0=A at*;generalize hB:S.drop 0=B at*;generalize hS2:sortLL (l.take (i+1))=S2 at*;refine zMc Qv5 (zc @e1 (zc @A0i (zc @hkI (zc @hltI (zc @hd (zc @ht (zc @hta (zc @hcat (zc @hlA (zc @hlB (zc @hdl (zc @Yk Qv5)))))))))))) Qv5 Qv5 (zc @A1F (zc @B0W Qv5)) (ed fun hp hpc=>?_);refine ⟨(i+1,S2),(Weak.untok 3 rfl).trans (Weak.headN 0 48 [0,3,4] zW),?_,?_⟩
     ·exact ⟨hlt,hS2.symm⟩
     ·simp only; omega
    | succ j=>
     have hj1:((j+1:Nat):Int)-1=(j:Int):=by omega
     have hj2:(0:Int)<((j+1:Nat):Int):=by omega
     have hj3:(j:Int)<(S.length:Int):=by omega
     have f0:=Qq (show j<S.length by omega);have f1:=A0D f0;have hBf:=C0C x S[j] hxl (hSm _ (Xw _));generalize S[j]=y at*;cases hxy:A1L x y with
     | true=>
      rw [hxy] at hBf;refine zR (zc @e1 (zc @f1 (zc @hj1 (zc @hj2 (zc @hj3 (zc @hltI (zc @A0i Qv5))))))) (zc hBf Qv5) Qv5 ?_;refine ⟨j,Weak.headN 0 48 [0,3,4,5] zW,?_,?_⟩
      ·refine ⟨by omega,fun q z hq hz=> ?_⟩;by_cases e:q=j
       ·subst e; rw [f0] at hz; cases hz; exact hxy
       ·exact hgt q z (by omega) hz
      ·omega
     | false=>
      have hi2:=hins (j+1) hk hgt (fun q z hq hz=>by
       have:q=j:=by omega
       subst this; rw [f0] at hz; cases hz; exact hxy)
      rw [hi2] at hcat;rw [hxy] at hBf;generalize hA:S.take (j+1)=A at*;generalize hB:S.drop (j+1)=B at*;generalize hS2:sortLL (l.take (i+1))=S2 at*;refine zMc Qv5 (zc @e1 (zc @f1 (zc @hj1 (zc @hj2 (zc @hj3 (zc @A0i (zc @hkI (zc @hltI (zc @hd (zc @ht (zc @hta (zc @hcat (zc @hlA (zc @hlB (zc @hdl (zc @Yk Qv5)))))))))))))))) (zc hBf Qv5) Qv5 (zc @A1F (zc @B0W Qv5)) (ed fun hp hpc=>?_);refine ⟨(i+1,S2),(Weak.untok 3 rfl).trans (Weak.headN 0 48 [0,3,4] zW),?_,?_⟩
      ·exact ⟨hlt,hS2.symm⟩
      ·simp only; omega
  ·have ei:i=l.length:=by omega
   have hnl: ¬((i:Int)<(l.length:Int)):=by omega
   rw [ei,Zz] at hS;rw [<-hS];refine zR (zc @hnl (zc @A0i Qv5)) Qv5 Qv5 ?_;simp [A0s,A0r,Blk.cells,ty,Tryz.results104,A0o,A0p,toT,A0d,A0b,A0c,A0a,A05]
def B1T (w v:Nat):Nat:=w / 2^v
def B7I (w v:Nat):B1T w (v+1)=B1T w v / 2:=by unfold B1T; rw [Nat.pow_succ,Nat.div_div_eq_div_mul]
def C7S (w:Nat):Int.tmod (w:Int) 2=((w%2:Nat):Int):=rfl
def C7T (w:Nat):Int.tdiv (w:Int) 2=((w / 2:Nat):Int):=rfl
def C58 (n w:Nat) (hn:n≤60) (hw:w<2^40):ACall Tryz.prog 103 [A0j n,A0j w] (A0k (zI (setN n w))):=by
 refine ACall.of_body Tryz.func103 rfl (by kernel_rfl) ?_;simp only [entry,Tryz.ntmps103,A0j];refine zU ?_;refine zR Qv5 Qv5 Qv5 ?_;refine AWp.weak (Weak.opens ((fun t f=>[f,f,f,f,f,t,f,f,f,f,f,f,f,f,f,f,f,f,f,f,f,f]) true false) 1 (by first | omega | simp)) ?_;simp only [A2t,A7l,List.length_cons,List.length_nil,Xv,Nat.reduceAdd,List.cons_append,List.nil_append];rw [show (w:Int)=(B1T w 0:Int) by unfold B1T; simp];refine AWp.loopS (α:=Nat) 22 (fun v=>[(0,.c (.int .i64 (n:Int))),(1,.c (.int .i64 (B1T w v:Int))),(5,.c (.slice (A0l (zI (setN v w))) (.chain 0))),(6,.c (.int .i64 (v:Int)))]) (fun v=>[.chain (setN v w).length 1]) (fun v=>v≤n) (fun v=>n-v) (0) (hk:=Weak.headL 1 22 [0,1,5,6] zW) (h0:=?_) (round:=fun v hI=>?_)
 ·exact Xj _
 ·have hv:v≤n:=hI;clear hI;by_cases hvl:v<n
  ·have hvI:(v:Int)<(n:Int):=by omega
   have hss:=A6L v w;have hsl2:=A4x v w;have hwv:B1T w v≤w:=Nat.div_le_self _ _;have hdv:=B7I w v;have hb:B3x w v=B1T w v%2:=rfl;rw [hb] at hss;generalize B1T w v=wv at*;have m1:=C7S wv;have m2:=C7T wv;by_cases hp:wv%2=1
   ·rw [if_pos hp] at hss;have hpI:((wv%2:Nat):Int)=1:=by omega
    have hzs:=B4M (setN v w) v;rw [<-hss] at hzs;have hln:(setN (v+1) w).length=(setN v w).length+1:=by rw [hss]; simp
    generalize setN v w=d at*;refine zMc Qv5 (zc @hvI (zc @m1 (zc @m2 (zc @hpI (zc @A0e (zc @A2w (zc @A3n Qv5))))))) Qv5 Qv5 @A1c (ed fun hp hpc=>?_);rw [hzs];refine ⟨v+1,Weak.headF 1 22 [0,1,5,6] (zc @hln (zc @hdv Qv5)) zW,?_,?_⟩
    ·exact hvl
    ·omega
   ·rw [if_neg hp] at hss;have hpI: ¬((wv%2:Nat):Int)=1:=by omega
    refine zM Qv5 (zc @hvI (zc @m1 (zc @m2 (zc @hpI (zc @A0e (zc @A3n Qv5)))))) Qv5 Qv5 Qv5 (ed fun hp hpc=>?_);rw [<-hss];refine ⟨v+1,Weak.headF 1 22 [0,1,5,6] (zc @hdv Qv5) zW,?_,?_⟩
    ·exact hvl
    ·omega
  ·have hnl: ¬(v:Int)<(n:Int):=by omega
   have ev:v=n:=by omega
   subst ev;refine zR (zc @hnl Qv5) Qv5 Qv5 ?_;simp [A0s,A0r,Blk.cells,ty,Tryz.results103,A0o,A0p,toT,A0d,A0b,A0c,A0a,A0k]
def A8y: ∀(a b:List Int),A1L a b=true↔A1I a b<0
 | [],[]=>by simp [A1L,A1I]
 | [],_::_=>by simp [A1L,A1I]
 | _::_,[]=>by simp [A1L,A1I]
 | x::a,y::b=>by
  have ih:=A8y a b;have h1:=A94 (x:=x) (y:=y);have h2:=C2Y (x:=x) (y:=y);show (if x=y then A1L a b else decide (x<y))=true↔(if A6f x y=0 then A1I a b else A6f x y)<0;by_cases h:x=y
  ·rw [if_pos h,if_pos (h1.2 h)]; exact ih
  ·rw [if_neg h,if_neg (fun q=>h (h1.1 q)),decide_eq_true_eq]; exact h2.symm
def B0X (g:G) (hl:g.es.length≤40):ACall Tryz.prog 78 [tG g] (A0j (A0m g)):=by
 have hC:=A3E g (by omega);by_cases hc:checkG g=0
 ·rw [hc] at hC;cases hb:connB g with
  | false=>
   have e:A0m g=13:=by unfold A0m; rw [if_neg (fun q=>q hc),if_neg (by rw [hb]; simp)]
   rw [e];rw [hb] at hC;obtain ⟨n,es⟩:=g;have hC2:ACall Tryz.prog 129 [tG ⟨n,es⟩] (.tup [A0q false,A0j 0]):=hC;refine ACall.of_body Tryz.func78 rfl (by kernel_rfl) ?_;simp only [entry,Tryz.ntmps78,tG];refine zU ?_;refine zR Qv5 (zc hC2 Qv5) Qv5 ?_;simp [A0s,A0r,Blk.cells,ty,Tryz.results78,A0o,A0p,toT,A0d,A0b,A0c,A0a,A0j]
  | true=>
   have e:A0m g=0:=by unfold A0m; rw [if_neg (fun q=>q hc),if_pos hb]
   rw [e];rw [hb] at hC;obtain ⟨n,es⟩:=g;have hC2:ACall Tryz.prog 129 [tG ⟨n,es⟩] (.tup [A0q true,A0j 0]):=hC;refine ACall.of_body Tryz.func78 rfl (by kernel_rfl) ?_;simp only [entry,Tryz.ntmps78,tG];refine zU ?_;refine zR Qv5 (zc hC2 Qv5) Qv5 ?_;simp [A0s,A0r,Blk.cells,ty,Tryz.results78,A0o,A0p,toT,A0d,A0b,A0c,A0a,A0j]
 ·have e:A0m g=checkG g:=if_pos hc;have hC2:ACall Tryz.prog 129 [tG g] (.tup [A0q false,A0j (checkG g)]):=by
   rw [decide_eq_false hc] at hC; exact hC
  rw [e];clear hC;generalize checkG g=er at*;obtain ⟨n,es⟩:=g;refine ACall.of_body Tryz.func78 rfl (by kernel_rfl) ?_;simp only [entry,Tryz.ntmps78,tG];refine zU ?_;refine zR (zc @hc Qv5) (zc hC2 Qv5) Qv5 ?_;simp [A0s,A0r,Blk.cells,ty,Tryz.results78,A0o,A0p,toT,A0d,A0b,A0c,A0a,A0j]
noncomputable def indW (g:G) (w:Nat):G:=B8i g (zI (setN g.n.toNat w))
noncomputable def C0D (g:G) (w:Nat):Bool:=connB (indW g w)
noncomputable def A5h (g:G) (k:Nat):List Nat:=((List.range k).map (·+1)).filter (C0D g)
noncomputable def itS (g:G) (k:Nat):List (List TVal):=(A5h g k).map fun w=>[A0k (zI (setN g.n.toNat w)),A0j (C1L (endsL (indW g w).es))]
def A7B (g:G) (k:Nat):A5h g (k+1)=if C0D g (k+1)=true then A5h g k++[k+1] else A5h g k:=by
 unfold A5h;rw [WQ,Jz,JV];cases h:C0D g (k+1)<;>simp [h]
def C0E (g:G) (k:Nat):(itS g k).length=(A5h g k).length:=by simp [itS]
def C59 (g:G) {k m:Nat} (h:k≤m): ∃r,A5h g m=A5h g k++r:=by
 obtain ⟨d,rfl⟩: ∃d,m=k+d:=⟨m-k,by omega⟩;clear h
 induction d with
 | zero=>exact ⟨[],by simp⟩
 | succ d ih=>
  obtain ⟨r,hr⟩:=ih;rw [<-Wx,A7B,hr];split
  ·exact ⟨r++[k+d+1],by simp⟩
  ·exact ⟨r,rfl⟩
def C5A (g:G) {k m:Nat} (h:k+1≤m) (hc:C0D g (k+1)=true):(itS g m)[(A5h g k).length]? =some [A0k (zI (setN g.n.toNat (k+1))),A0j (C1L (endsL (indW g (k+1)).es))]:=by
 obtain ⟨r,hr⟩:=C59 g h;have hs:=A7B g k;rw [if_pos hc] at hs;unfold itS;rw [QQ,hr,hs,Zv,QW (Qk _),Jv];rfl
def C5B {g:G} {m k:Nat} {ts:List TVal} (h:(itS g m)[k]? =some ts): ∃w,(A5h g m)[k]? =some w∧ts=[A0k (zI (setN g.n.toNat w)),A0j (C1L (endsL (indW g w).es))]:=by
 unfold itS at h;rw [QQ] at h;cases hx:(A5h g m)[k]? with
 | none=>rw [hx] at h; cases h
 | some w=>rw [hx] at h; exact ⟨w,rfl,(JX h).symm⟩
structure IndOk (g:G):Prop where
 ind: ∀w,1≤w->w<2^g.n.toNat->indE g (zI (setN g.n.toNat w))=0
 chk: ∀w,1≤w->w<2^g.n.toNat->checkG (indW g w)=0
 len: ∀w,1≤w->w<2^g.n.toNat->(indW g w).es.length≤40
def B5b (g:G) (hI:IndOk g) (h1:1≤g.n∧g.n≤12) (hl:g.es.length≤40):AIter Tryz.prog 155 [.rptr [.int .i64 g.n,.slice (A0f g.es)]] (itS g (2^g.n.toNat-1)):=by
 obtain ⟨n,hn⟩:=Zx (show 0≤g.n by omega);have hn12:n≤12:=by omega
 have hpw:=C7P hn12;have hsl:=C8n n hn12;have hgn:g.n.toNat=n:=by omega
 have hget:=fun k h hc=>C5A g (k:=k) (m:=2^g.n.toNat-1) h hc;have hlenI:=C0E g (2^g.n.toNat-1);have hsu:=A7B g;have hs0:(A5h g 0).length=0:=rfl;have hi:=hI.ind;have hck:=hI.chk;have hil:=hI.len;have hind:=fun w=>B7o g (zI (setN g.n.toNat w)) (by omega) (by rw [A3n]; have:=A4x g.n.toNat w; omega);have hdW: ∀w,B8i g (zI (setN g.n.toNat w))=indW g w:=fun _=>rfl;have hcw: ∀w,C0D g w=connB (indW g w):=fun _=>rfl;simp only [hdW] at hind;rw [hgn] at*;generalize itS g (2^n-1)=xs at*;generalize C0D g=cW at*;generalize A5h g=sW at*;generalize indW g=iW at*;clear hI hdW;obtain ⟨nI,es⟩:=g;simp only at hn hl h1 ⊢;subst hn;have hn0:0≤(n:Int):=by omega
 have hr1:(-9223372036854775808:Int)≤((2^n:Nat):Int)∧((2^n:Nat):Int)≤9223372036854775807:=by omega
 refine AIter.of_body Tryz.func155 rfl (by kernel_rfl) rfl (fun l J Jx hJ hJx hY=> ?_);simp only [entry,Tryz.ntmps155,ofT,A3v,A0v,XY,ZQ,List.length_cons,List.length_nil,Nat.reduceAdd,Nat.reduceSub,List.replicate_succ,List.replicate_zero,List.cons_append,List.nil_append];refine zR Qv5 Qv5 Qv5 ?_;generalize hP:2^n=P at*;rw [show J 0=J (sW 0).length by rw [hs0]];refine AWp.loopS (α:=Nat) 59 (fun k=>[(0,.c (.yld l)),(1,.c (.rptr [.int .i64 (n:Int),.slice (A0f es)])),(3,.c (.int .i64 ((k+1:Nat):Int)))]) (fun k=>[.ghost (J (sW k).length)]) (fun k=>k+1≤P) (fun k=>P-k) (0) (hk:=Weak.headL 1 59 [0,1,3] zW) (h0:=?_) (round:=fun k hI=>?_)
 ·omega
 ·have hk:k+1≤P:=hI;clear hI;by_cases hkl:k+1<P
  ·have hkI:((k+1:Nat):Int)<(P:Int):=by omega
   have hind1:=hind (k+1);rw [hi (k+1) (by omega) hkl] at hind1;have hck1:=hck (k+1) (by omega) hkl;have hil1:=hil (k+1) (by omega) hkl;have hC:=A3E (iW (k+1)) (by omega);rw [hck1] at hC;have hG:=C28 (iW (k+1)) (by omega);rw [hck1,if_neg (by decide)] at hG;have hcw1:=hcw (k+1);have hsu1:=hsu k;have hget1:=hget k (by omega);generalize hw:k+1=w at*;have hwb:w<2^40:=by omega
   have hz0:zI (setN 0 w)=[]:=rfl;refine zJ (stop 5) (zc @hkI (zc @hsl (zc @hn0 Qv5))) Qv5 Qv5 Qv5 ?_;refine AWp.weak (Weak.opens ((fun t f=>[f,f,f,f,t,f,f,f,f,f,f,f,f,f,f,f,f,f,f,f,f,f,f,f,f,f,f,f,f,f,f,f,f,f,f,f,f,f,f,f,f,f,f,f,f,f,f,f,f,f,f,f,f,f,f,f,f,f,f]) true false) 1 (by first | omega | simp)) ?_;simp only [A2t,A7l,List.length_cons,List.length_nil,Xv,Nat.reduceAdd,List.cons_append,List.nil_append];refine AWp.loopS (α:=Nat) 59 (fun v=>[(0,.c (.yld l)),(1,.c (.rptr [.int .i64 (n:Int),.slice (A0f es)])),(3,.c (.int .i64 (w:Int))),(4,.c (.slice (A0l (zI (setN v w))) (.chain 1))),(20,.c (.int .i64 (n:Int))),(21,.c (.int .i64 (v:Int)))]) (fun v=>[.ghost (J (sW k).length),.chain (setN v w).length 1]) (fun v=>v≤n) (fun v=>n-v) (0) (hk:=Weak.headL 2 59 [0,1,3,4,20,21] zW) (h0:=?_) (round:=fun v hI=>?_)
   ·exact Xj _
   ·have hv:v≤n:=hI;clear hI;by_cases hvl:v<n
    ·have hvI:(v:Int)<(n:Int):=by omega
     have hv0:0≤(v:Int):=by omega
     have hss:=A6L v w;have hsl2:=A4x v w;have hsh:=C8l w v (by omega);have hdl:w / 2^v≤w:=Nat.div_le_self _ _;have han:=C8m (w / 2^v) (by omega);have hb:B3x w v=w / 2^v%2:=rfl;rw [hb] at hss;generalize w / 2^v=x at*;by_cases hp:x%2=1
     ·rw [if_pos hp] at hss;have hpI:((x%2:Nat):Int)=1:=by omega
      have hzs:=B4M (setN v w) v;rw [<-hss] at hzs;have hln:(setN (v+1) w).length=(setN v w).length+1:=by rw [hss]; simp
      generalize setN v w=d at*;refine zRc (zc @hvI (zc @hv0 (zc @hsh (zc @han (zc @hpI (zc @A0e (zc @A2w (zc @A3n Qv5)))))))) Qv5 @A1c ?_;rw [hzs];refine ⟨v+1,Weak.headF 2 59 [0,1,3,4,20,21] (zc @hln Qv5) zW,?_,?_⟩
      ·exact hvl
      ·omega
     ·rw [if_neg hp] at hss;have hpI: ¬((x%2:Nat):Int)=1:=by omega
      refine zR (zc @hvI (zc @hv0 (zc @hsh (zc @han (zc @hpI (zc @A0e (zc @A3n Qv5))))))) Qv5 Qv5 ?_;rw [<-hss];refine ⟨v+1,Weak.headN 2 59 [0,1,3,4,20,21] zW,?_,?_⟩
      ·exact hvl
      ·omega
    ·have hnl: ¬(v:Int)<(n:Int):=by omega
     have ev:v=n:=by omega
     rw [ev];rw [ev] at hnl;cases hcb:cW w with
     | false=>
      rw [<-hcw1,hcb,show (decide ((0:Int)=0)&&false)=false from rfl] at hC;rw [hcb] at hsu1;simp only [Yk,if_false] at hsu1;generalize iW w=H at*;obtain ⟨hn',hes⟩:=H;refine zR (zc @hnl Qv5) (zc hind1 (zc hC Qv5)) Qv5 ?_;rw [<-hsu1];refine ⟨w,Weak.headN 1 59 [0,1,3] zW,?_,?_⟩
      ·exact hkl
      ·omega
     | true=>
      rw [<-hcw1,hcb,show (decide ((0:Int)=0)&&true)=true from rfl] at hC;rw [hcb,if_pos rfl] at hsu1;have hg2:=hget1 hcb;have hsl3:(sW w).length=(sW k).length+1:=by rw [hsu1]; simp
      generalize iW w=H at*;obtain ⟨hn',hes⟩:=H;simp only at hg2 hG;generalize C1L (endsL hes)=gen at*;refine zM (zc Qv5 (prt 15 3)) (zc @hnl Qv5) (zc hind1 (zc hC (zc hG Qv5))) Qv5 Qv5 (ed fun hp hpc=>?_);simp only [Zy,Yq];refine AReg.yield rfl rfl rfl (by rfl) (by with_unfolding_all rfl) (by simp [okBlk]) (hY _ _ hg2) (hJ _) hJx ?_ ?_<;>(try refine zS ?_)<;>refine AReg.rest (fun K hK=> ?_)
      ·
       rw [<-hsl3];refine zM trivial trivial trivial trivial trivial (ed fun hp hpc=>?_);refine ⟨w,Weak.headN 1 59 [0,1,3] zW,?_,?_⟩
       ·exact hkl
       ·omega
      ·
       refine zM trivial trivial trivial trivial trivial (ed fun hp hpc=>?_);exact ⟨Qv3,_,.inr rfl⟩
  ·have hnl: ¬((k+1:Nat):Int)<(P:Int):=by omega
   have ek:k=P-1:=by omega
   refine zR (zc @hnl (zc @hsl (zc @hn0 Qv5))) Qv5 Qv5 ?_;exact ⟨Qv3,_,.inl (by rw [hlenI,ek])⟩
def B6n {n w:Nat} {x:Int}:x∈zI (setN n w)↔ ∃a:Nat,x=a∧a<n∧B3x w a=1:=by
 unfold zI setN;rw [QY];constructor
 ·rintro ⟨a,ha,rfl⟩;rw [ZV,Xk,decide_eq_true_eq] at ha;exact ⟨a,rfl,ha.1,ha.2⟩
 ·rintro ⟨a,rfl,h1,h2⟩;exact ⟨a,by rw [ZV,Xk,decide_eq_true_eq]; exact ⟨h1,h2⟩,rfl⟩
structure Tw (r d b:R) (l m:List Int) (E B:Nat):Prop where
 d1:dualD r=d
 d2:dualE r=0
 d3:dualN r=l
 b1:dualD d=b
 b2:dualE d=0
 b3:dualN d=m
 sd:RSm d
 sb:RSm b
 ed:ribE d=0
 eb:ribE b=0
 gen:genusR d=genusR r
 bn:b.n=r.n
 ll:l.length=E
 ml:m.length=E
 e9:E≤9
 eE:(endsL r.es).length=E
 lr: ∀x,x∈l->0≤x∧x<E
 mr: ∀x,x∈m->0≤x∧x<E
 br: ∀w,w∈b.ar-> ∀x,x∈w->0≤x∧x<2*E
 hB:B<2^E
 test:sortLL (b.ar.map (renL (behI (invK l (flB E B) l.length) (invK m (List.replicate E false) m.length) (2*E))))=sortLL r.ar
end Go.Proofs.YtdbdfkohpjefjaaGreat
