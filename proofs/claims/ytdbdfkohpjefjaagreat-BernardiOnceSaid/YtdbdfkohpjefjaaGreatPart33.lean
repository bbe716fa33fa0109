/- A part of the proof. -/
import Derived.Test.YtdbdfkohpjefjaaGreatPart29
import Derived.Test.YtdbdfkohpjefjaaGreatPart31
import Derived.Test.YtdbdfkohpjefjaaGreatPart32
set_option linter.all false
set_option maxHeartbeats 4000000
set_option maxRecDepth 100000
namespace Go.Proofs.YtdbdfkohpjefjaaGreat
open Go.Sp
structure Rib (r:R):Prop where
 ok:ROk r
 pos:0<(endsL r.es).length
 few:(endsL r.es).length≤50
 fac:(facesR r).length≤12
section
variable {r:R}
end
section
variable {r:R}
end
def A1O:List Int->List Int->Bool
 | [],[]=>false
 | [],_::_=>true
 | _::_,[]=>false
 | a::us,b::vs=>if a=b then A1O us vs else decide (a<b)
theorem A2g: ∀a b:List Int,A1O a b=true->A1O b a=false
 | [],[],h=>by simp [A1O] at h
 | [],_::_,_=>rfl
 | _::_,[],h=>by simp [A1O] at h
 | a::us,b::vs,h=>by
  simp only [A1O] at h ⊢;by_cases e:a=b
  ·rw [if_pos e] at h; rw [if_pos e.symm]; exact A2g us vs h
  ·rw [if_neg e] at h; rw [if_neg (fun x=>e x.symm)];rw [decide_eq_true_eq] at h; rw [decide_eq_false_iff_not]; omega
theorem B1c: ∀a b:List Int,A1O a b=false->A1O b a=false->a=b
 | [],[],_,_=>rfl
 | [],_::_,h,_=>by simp [A1O] at h
 | _::_,[],_,h=>by simp [A1O] at h
 | a::us,b::vs,h,h2=>by
  simp only [A1O] at h h2;by_cases e:a=b
  ·rw [if_pos e] at h; rw [if_pos e.symm] at h2; rw [e,B1c us vs h h2]
  ·rw [if_neg e] at h; rw [if_neg (fun x=>e x.symm)] at h2;rw [decide_eq_false_iff_not] at h h2; omega
theorem A3Q: ∀a b c:List Int,A1O b a=false->A1O c b=false->A1O c a=false
 | [],_,[],_,_=>rfl
 | _::_,[],[],h,_=>by simp [A1O] at h
 | a::us,_,[],h,h2=>by
  rename_i x;cases x with
  | nil=>simp [A1O] at h
  | cons b vs=>simp [A1O] at h2
 | [],_,_::_,_,_=>rfl
 | a::us,[],c::ws,h,h2=>by simp [A1O] at h
 | a::us,b::vs,c::ws,h,h2=>by
  simp only [A1O] at h h2 ⊢;by_cases e1:b=a
  ·subst e1;rw [if_pos rfl] at h;by_cases e2:c=b
   ·rw [if_pos e2] at h2 ⊢; exact A3Q us vs ws h h2
   ·rw [if_neg e2] at h2 ⊢; exact h2
  ·rw [if_neg e1,decide_eq_false_iff_not] at h;by_cases e2:c=b
   ·rw [if_pos e2] at h2;rw [if_neg (by omega),decide_eq_false_iff_not]; omega
   ·rw [if_neg e2,decide_eq_false_iff_not] at h2;rw [if_neg (by omega),decide_eq_false_iff_not]; omega
theorem B6C (a:List Int):A1O a a=false:=by
 cases h:A1O a a with
 | false=>rfl
 | true=>have:=A2g a a h; rw [h] at this; cases this
def sortLL (l:List (List Int)):List (List Int):=l.mergeSort fun a b=> !A1O b a
theorem A2s (l:List (List Int)):(sortLL l).Perm l:=List.mergeSort_perm l _
theorem B2x (l:List (List Int)):(sortLL l).Pairwise fun a b=>A1O b a=false:=by
 have:=List.pairwise_mergeSort (le:=fun a b:List Int=> !A1O b a) (fun a b c h1 h2=>by
  simp only [Wj] at*; exact A3Q a b c h1 h2) (fun a b=>by
  cases h:A1O b a with
  | false=>simp
  | true=>simp [A2g _ _ h]) l
 exact this.imp fun h=>by simpa using h
theorem A66 {l m:List (List Int)} (hs:m.Pairwise fun a b=>A1O b a=false) (hp:m.Perm l):m=sortLL l:=
 Qw3 (le:=fun a b:List Int=>A1O b a=false) (fun a b _ _ h1 h2=>B1c a b h2 h1) hs (B2x l) (hp.trans (A2s l).symm)
theorem B9y {S m:List (List Int)} {x:List Int} {k:Nat} (hS:S=sortLL m) (hk:k≤S.length) (h1: ∀j y,k≤j->S[j]? =some y->A1O x y=true) (h2: ∀j y,j+1=k->S[j]? =some y->A1O x y=false):
  S.take k++[x]++S.drop k=sortLL (m++[x]):=by
 have hp:=B2x m;rw [<-hS] at hp;have hp2:=hp;rw [<-WJ k S,Qq9] at hp2;have ha: ∀a,a∈S.take k->A1O x a=false:=fun a ha=>by
  obtain ⟨i,hi,rfl⟩:=List.getElem_of_mem ha;rw [Wv] at hi;rw [List.getElem_take];have hkl:k-1<S.length:=by omega
  have h3:=h2 (k-1) S[k-1] (by omega) (Qq hkl);by_cases e:i=k-1
  ·subst e; exact h3
  ·exact A3Q _ _ _ (Yz.1 hp i (k-1) (by omega) hkl (by omega)) h3
 have hb: ∀b,b∈S.drop k->A1O x b=true:=fun b hb=>by
  obtain ⟨i,hi,rfl⟩:=List.getElem_of_mem hb;rw [List.length_drop] at hi;rw [List.getElem_drop];exact h1 (k+i) _ (by omega) (Qq (by omega))
 refine A66 ?_ ?_
 ·rw [Zk,Qq9];refine ⟨hp2.1,?_,?_⟩
  ·rw [List.singleton_append,YY];exact ⟨fun b hb'=>A2g _ _ (hb b hb'),hp2.2.1⟩
  ·intro a ha' b hb';rcases XJ.1 hb' with h | h
   ·obtain rfl:=Zz.1 h; exact ha a ha'
   ·exact A3Q _ _ _ (ha a ha') (A2g _ _ (hb b h))
 ·have e1:(S.take k++[x]++S.drop k).Perm (x::(S.take k++S.drop k)):=by
   rw [Zk,List.singleton_append]; exact List.perm_middle
  rw [WJ] at e1;refine e1.trans ?_;rw [hS];exact ((A2s m).cons x).trans (List.perm_append_singleton x m).symm
def C6E (nums:List Int) (fl:List Bool) (T:List Int) (e:Nat):List Int:=
 (T.set (2*(nums.getD e 0).toNat) (if fl.getD e false=true then 2*(e:Int)+1 else 2*(e:Int))).set (2*(nums.getD e 0).toNat+1) (if fl.getD e false=true then 2*(e:Int) else 2*(e:Int)+1)
def invK (nums:List Int) (fl:List Bool) (k:Nat):List Int:=(List.range k).foldl (C6E nums fl) (List.replicate (2*nums.length) 0)
def flB (m bits:Nat):List Bool:=(List.range m).map fun i=>decide (bits / 2^i%2=1)
def behI (to back:List Int) (k:Nat):List Int:=(List.range back.length).map fun j=>if j<k then to.getD (back.getD j 0).toNat 0 else back.getD j 0
def renL (to:List Int) (l:List Int):List Int:=C5a (l.map fun z=>to.getD z.toNat 0)
section
variable {r:R}
end
theorem C1V {b:List Int}:A1O [] b=decide (0<b.length):=by cases b<;>simp [A1O]
theorem C3U {a:List Int}:A1O a []=false:=by cases a<;>rfl
theorem B9z (a b:List Int) (ha:a.length<2^40) (hb:b.length<2^40):ACall Tryz.prog 153 [A0m a,A0m b] (A0z (A1O a b)):=by
 refine ACall.of_body Tryz.func153 rfl (by kernel_rfl) ?_;simp only [entry,Tryz.ntmps153,A0m];refine zU ?_;refine zR Qw9 Qw9 Qw9 ?_;refine AWp.loopS (α:=Nat) 41 (fun i=>[(0,.c (.slice (A0p a) .none)),(1,.c (.slice (A0p b) .none)),(5,.c (.int .i64 (i:Int)))]) (fun i=>[]) (fun i=>i≤a.length∧i≤b.length∧A1O a b=A1O (a.drop i) (b.drop i)) (fun i=>a.length-i) (0) (hk:=Weak.headL 0 41 [0,1,5] zW) (h0:=?_) (round:=fun i hI=>?_)
 ·exact ⟨Xj _,Xj _,rfl⟩
 ·obtain ⟨hi,hi2,hx⟩:=hI;by_cases h1:i<a.length
  ·have h1I:(i:Int)<a.length:=by omega
   by_cases h2:i<b.length
   ·have h2I:(i:Int)<b.length:=by omega
    have e0:=Qq h1;have e1:=A0u e0;have f0:=Qq h2;have f1:=A0u f0;rw [XV h1,XV h2] at hx;simp only [A1O] at hx;generalize a[i]=x at*;generalize b[i]=y at*;by_cases hxy:x=y
    ·rw [if_pos hxy] at hx;refine zR (zc @h1I (zc @h2I (zc @A0e (zc @e1 (zc @f1 (zc @hxy Qw9)))))) Qw9 Qw9 ?_;refine ⟨i+1,Weak.headN 0 41 [0,1,5] zW,?_,?_⟩
     ·exact ⟨h1,h2,hx⟩
     ·omega
    ·rw [if_neg hxy] at hx;rw [hx];by_cases hlt:x<y
     ·rw [decide_eq_true hlt];refine zR (zc @h1I (zc @h2I (zc @A0e (zc @e1 (zc @f1 (zc @hxy (zc @hlt Qw9))))))) Qw9 Qw9 ?_;simp [A0y,A0x,Blk.cells,ty,Tryz.results153,A0s,A0t,toT,A0d,A0b,A0c,A0a,A0z]
     ·rw [decide_eq_false hlt];refine zR (zc @h1I (zc @h2I (zc @A0e (zc @e1 (zc @f1 (zc @hxy (zc @hlt Qw9))))))) Qw9 Qw9 ?_;simp [A0y,A0x,Blk.cells,ty,Tryz.results153,A0s,A0t,toT,A0d,A0b,A0c,A0a,A0z]
   ·have h2I: ¬((i:Int)<b.length):=by omega
    have e:A1O a b=false:=by rw [hx,JZ (show b.length≤i by omega),C3U]
    have hab: ¬((a.length:Int)<b.length):=by omega
    rw [e];refine zR (zc @h1I (zc @h2I (zc @A0e (zc @hab Qw9)))) Qw9 Qw9 ?_;simp [A0y,A0x,Blk.cells,ty,Tryz.results153,A0s,A0t,toT,A0d,A0b,A0c,A0a,A0z]
  ·have h1I: ¬((i:Int)<a.length):=by omega
   have ei:i=a.length:=by omega
   have e:A1O a b=decide (0<(b.drop i).length):=by rw [hx,JZ (show a.length≤i by omega),C1V]
   rw [List.length_drop] at e;rw [e];by_cases hab:(a.length:Int)<b.length
   ·rw [decide_eq_true (by omega)];refine zR (zc @h1I (zc @A0e (zc @hab Qw9))) Qw9 Qw9 ?_;simp [A0y,A0x,Blk.cells,ty,Tryz.results153,A0s,A0t,toT,A0d,A0b,A0c,A0a,A0z]
   ·rw [decide_eq_false (by omega)];refine zR (zc @h1I (zc @A0e (zc @hab Qw9))) Qw9 Qw9 ?_;simp [A0y,A0x,Blk.cells,ty,Tryz.results153,A0s,A0t,toT,A0d,A0b,A0c,A0a,A0z]
theorem B3X (l:List (List Int)) (i:Nat):(A00 l).take i=A00 (l.take i):=by simp [A00]
theorem B3Y (l:List (List Int)) (i:Nat):(A00 l).drop i=A00 (l.drop i):=by simp [A00]
theorem B0q {A:List (List Int)} {x:List Int} {r:List Tree} (h:r∈A00 A++[[Tree.slice (A0p x)]]):r.length=1:=by
 rcases XJ.1 h with h | h
 ·exact A3e h
 ·rw [Zz.1 h]; rfl
theorem B6D (l:List (List Int)) (hl:l.length<2^30) (hll: ∀x,x∈l->x.length<2^40):ACall Tryz.prog 104 [A0R l] (A0R (sortLL l)):=by
 have hz:sortLL ([]:List (List Int))=[]:=List.Perm.eq_nil (A2s []);refine ACall.of_body Tryz.func104 rfl (by kernel_rfl) ?_;simp only [entry,Tryz.ntmps104,A0R];refine zU ?_;refine zJ (stop 2) trivial trivial trivial trivial ?_;refine AWp.weak (Weak.opens ((fun t f=>[f,f,f,t,f,f,f,f,f,f,f,f,f,f,f,f,f,f,f,f,f,f,f,f,f,f,f,f,f,f,f,f,f,f,f,f,f,f,f,f,f,f,f,f,f,f,f,f]) true false) 1 (by first | omega | simp)) ?_;simp only [A27,A8q,List.length_cons,List.length_nil,Xv,Nat.reduceAdd,List.cons_append,List.nil_append];refine AWp.weak (Weak.untok 3 rfl) ?_;simp only [List.set_cons_succ,List.set_cons_zero];refine zR Qw9 Qw9 Qw9 ?_;refine AWp.loopS (α:=(Nat×List (List Int))) 48 (fun s=>[(0,.c (.slice (A00 l) .none)),(3,.c (.slice (A00 s.2) .none)),(4,.c (.int .i64 (s.1:Int)))]) (fun s=>[]) (fun s=>s.1≤l.length∧s.2=sortLL (l.take s.1)) (fun s=>l.length-s.1) ((0,[])) (hk:=Weak.headL 0 48 [0,3,4] zW) (h0:=?_) (round:=fun s hI=>?_)
 ·exact ⟨Xj _,hz.symm⟩
 ·obtain ⟨i,S⟩:=s;obtain ⟨hi,hS⟩:=hI;simp only at hi hS ⊢;have hSl:S.length=i:=by rw [hS,(A2s _).length_eq,Wv]; omega
  have hSm: ∀y,y∈S->y.length<2^40:=fun y hy=>by
   rw [hS] at hy;exact hll y (VQ ((A2s _).mem_iff.1 hy))
  by_cases hlt:i<l.length
  ·have hltI:(i:Int)<(l.length:Int):=by omega
   have e0:=Qq hlt;have e1:=A0W e0;have hxl:=hll _ (Xw hlt);have hsn:=XX hlt;generalize l[i]=x at*;have hins:=fun k hk h1 h2=>B9y (x:=x) (k:=k) hS hk h1 h2;rw [<-hsn] at hins;clear hS;refine zR (zc @hltI (zc @A0o Qw9)) Qw9 Qw9 ?_;refine AWp.loopS (α:=Nat) 48 (fun k=>[(0,.c (.slice (A00 l) .none)),(3,.c (.slice (A00 S) .none)),(4,.c (.int .i64 (i:Int))),(5,.c (.int .i64 (k:Int)))]) (fun k=>[]) (fun k=>k≤S.length∧ ∀j y,k≤j->S[j]? =some y->A1O x y=true) (fun k=>k) (S.length) (hk:=Weak.headL 0 48 [0,3,4,5] zW) (h0:=?_) (round:=fun k hI=>?_)
   ·exact ⟨QQ _,fun j y hj hy=>by rw [Xq hj] at hy; cases hy⟩
   ·obtain ⟨hk,hgt⟩:=hI;have hkI:(k:Int)≤(S.length:Int):=by omega
    have hd:(A00 S).drop k=A00 (S.drop k):=B3Y S _;have ht:(A00 S).take k=A00 (S.take k):=B3X S _;have hta:(A00 S).take S.length=A00 S:=ZJ (by rw [A0o]; exact QQ _);have hcat:A00 (S.take k)++[[Tree.slice (A0p x)]]++A00 (S.drop k)=A00 (S.take k++[x]++S.drop k):=by simp [A00]
    have hlA:(S.take k).length=k:=by rw [Wv]; omega
    have hdl:((A00 S).drop k).length=S.length-k:=by rw [List.length_drop,A0o]
    have hlB:(S.drop k).length=S.length-k:=List.length_drop ..;cases k with
    | zero=>
     have hi2:=hins 0 hk hgt (fun j y hj=>by omega);rw [hi2] at hcat;generalize hA:S.take 0=A at*;generalize hB:S.drop 0=B at*;generalize hS2:sortLL (l.take (i+1))=S2 at*
     repeat' (first|((first|(refine zT ?_;intro K' hK')|(refine zG ?_ ?_<;>(try refine zH ?_)<;>intro hguard<;>(try exact zX)<;>try intro K' hK'))<;>((try simp+contextual only [go_sem,e1,A0o,Int.toNat_natCast,Int.toNat_zero,hkI,hltI,hd,ht,hta,hcat,hlA,hlB,hdl,chunks,List.range,List.range.loop,Option.isSome_none,Option.isSome_some,YZ,false_and,not_false_eq_true]);(repeat' first|(with_reducible refine hK' _ _ ?_;clear hK' K')|(with_reducible exact A3e (by assumption))|(exact .inr Qw7)|(with_reducible exact B0q (by assumption))|exact zY|with_reducible refine Qw8 ?_ ?_|(with_reducible intro hpath;try exact zP)|(refine hK' _ _ ?_;clear hK' K')|fail);try refine zS ?_))|(refine zE ?_;refine hK _ _ ?_;clear hK K)|(refine zN ?_;try refine zS ?_)|refine zA ?_|(refine zB ?_;intro K hK)|(refine zC ?_ ?_<;>(try refine zH ?_)<;>intro hcond<;>try exact zX)|fail)
     refine ⟨(i+1,S2),(Weak.untok 3 rfl).trans (Weak.headN 0 48 [0,3,4] zW),?_,?_⟩
     ·exact ⟨hlt,hS2.symm⟩
     ·simp only; omega
    | succ j=>
     have hj1:((j+1:Nat):Int)-1=(j:Int):=by omega
     have hj2:(0:Int)<((j+1:Nat):Int):=by omega
     have hj3:(j:Int)<(S.length:Int):=by omega
     have f0:=Qq (show j<S.length by omega);have f1:=A0W f0;have hBf:=B9z x S[j] hxl (hSm _ (Xw _));generalize S[j]=y at*;cases hxy:A1O x y with
     | true=>
      rw [hxy] at hBf;refine zR (zc @e1 (zc @f1 (zc @hj1 (zc @hj2 (zc @hj3 (zc @hltI (zc @A0o Qw9))))))) (zc hBf Qw9) Qw9 ?_;refine ⟨j,Weak.headN 0 48 [0,3,4,5] zW,?_,?_⟩
      ·refine ⟨by omega,fun q z hq hz=> ?_⟩;by_cases e:q=j
       ·subst e; rw [f0] at hz; cases hz; exact hxy
       ·exact hgt q z (by omega) hz
      ·omega
     | false=>
      have hi2:=hins (j+1) hk hgt (fun q z hq hz=>by
       have:q=j:=by omega
       subst this; rw [f0] at hz; cases hz; exact hxy)
      rw [hi2] at hcat;rw [hxy] at hBf;generalize hA:S.take (j+1)=A at*;generalize hB:S.drop (j+1)=B at*;generalize hS2:sortLL (l.take (i+1))=S2 at*
      repeat' (first|((first|(refine zT ?_;intro K' hK')|(refine zG ?_ ?_<;>(try refine zH ?_)<;>intro hguard<;>(try exact zX)<;>try intro K' hK'))<;>((try simp+contextual only [go_sem,e1,f1,hj1,hj2,hj3,A0o,Int.toNat_natCast,Int.toNat_zero,hkI,hltI,hd,ht,hta,hcat,hlA,hlB,hdl,chunks,List.range,List.range.loop,Option.isSome_none,Option.isSome_some,YZ,false_and,not_false_eq_true]);(repeat' first|(with_reducible refine hK' _ _ ?_;clear hK' K')|(with_reducible refine zK hBf ?_;try simp+contextual only [go_sem,e1,f1,hj1,hj2,hj3,A0o,Int.toNat_natCast,Int.toNat_zero,hkI,hltI,hd,ht,hta,hcat,hlA,hlB,hdl,chunks,List.range,List.range.loop,Option.isSome_none,Option.isSome_some,YZ,false_and,not_false_eq_true])|(with_reducible exact A3e (by assumption))|(exact .inr Qw7)|(with_reducible exact B0q (by assumption))|exact zY|with_reducible refine Qw8 ?_ ?_|(with_reducible intro hpath;try exact zP)|(refine hK' _ _ ?_;clear hK' K')|fail);try refine zS ?_))|(refine zE ?_;refine hK _ _ ?_;clear hK K)|(refine zN ?_;try refine zS ?_)|refine zA ?_|(refine zB ?_;intro K hK)|(refine zC ?_ ?_<;>(try refine zH ?_)<;>intro hcond<;>try exact zX)|fail)
      refine ⟨(i+1,S2),(Weak.untok 3 rfl).trans (Weak.headN 0 48 [0,3,4] zW),?_,?_⟩
      ·exact ⟨hlt,hS2.symm⟩
      ·simp only; omega
  ·have ei:i=l.length:=by omega
   have hnl: ¬((i:Int)<(l.length:Int)):=by omega
   rw [ei,Zy] at hS;rw [<-hS];refine zR (zc @hnl (zc @A0o Qw9)) Qw9 Qw9 ?_;simp [A0y,A0x,Blk.cells,ty,Tryz.results104,A0s,A0t,toT,A0d,A0b,A0c,A0a,A0R]
def B1d (w v:Nat):Nat:=w / 2^v
theorem B6E (w v:Nat):B1d w (v+1)=B1d w v / 2:=by unfold B1d; rw [Nat.pow_succ,Nat.div_div_eq_div_mul]
theorem C6t (w:Nat):Int.tmod (w:Int) 2=((w%2:Nat):Int):=rfl
theorem C6u (w:Nat):Int.tdiv (w:Int) 2=((w / 2:Nat):Int):=rfl
theorem C3V (n w:Nat) (hn:n≤60) (hw:w<2^40):ACall Tryz.prog 103 [A0k n,A0k w] (A0m (zI (setN n w))):=by
 refine ACall.of_body Tryz.func103 rfl (by kernel_rfl) ?_;simp only [entry,Tryz.ntmps103,A0k];refine zU ?_;refine zR Qw9 Qw9 Qw9 ?_;refine AWp.weak (Weak.opens ((fun t f=>[f,f,f,f,f,t,f,f,f,f,f,f,f,f,f,f,f,f,f,f,f,f]) true false) 1 (by first | omega | simp)) ?_;simp only [A27,A8q,List.length_cons,List.length_nil,Xv,Nat.reduceAdd,List.cons_append,List.nil_append];rw [show (w:Int)=(B1d w 0:Int) by unfold B1d; simp];refine AWp.loopS (α:=Nat) 22 (fun v=>[(0,.c (.int .i64 (n:Int))),(1,.c (.int .i64 (B1d w v:Int))),(5,.c (.slice (A0p (zI (setN v w))) (.chain 0))),(6,.c (.int .i64 (v:Int)))]) (fun v=>[.chain (setN v w).length 1]) (fun v=>v≤n) (fun v=>n-v) (0) (hk:=Weak.headL 1 22 [0,1,5,6] zW) (h0:=?_) (round:=fun v hI=>?_)
 ·exact Xj _
 ·have hv:v≤n:=hI;clear hI;by_cases hvl:v<n
  ·have hvI:(v:Int)<(n:Int):=by omega
   have hss:=A65 v w;have hsl2:=A5v v w;have hwv:B1d w v≤w:=Nat.div_le_self _ _;have hdv:=B6E w v;have hb:B2s w v=B1d w v%2:=rfl;rw [hb] at hss;generalize B1d w v=wv at*;have m1:=C6t wv;have m2:=C6u wv;by_cases hp:wv%2=1
   ·rw [if_pos hp] at hss;have hpI:((wv%2:Nat):Int)=1:=by omega
    have hzs:=B3M (setN v w) v;rw [<-hss] at hzs;have hln:(setN (v+1) w).length=(setN v w).length+1:=by rw [hss]; simp
    generalize setN v w=d at*
    repeat' (first|((first|(refine zT ?_;intro K' hK')|(refine zG ?_ ?_<;>(try refine zH ?_)<;>intro hguard<;>(try exact zX)<;>try intro K' hK'))<;>((try simp+contextual only [go_sem,hvI,m1,m2,hpI,A0e,A2p,A35,Int.toNat_natCast,chunks,List.range,List.range.loop]);(repeat' first|(with_reducible refine hK' _ _ ?_;clear hK' K')|(with_reducible exact A1p (by assumption))|exact zY|with_reducible refine Qw8 ?_ ?_|(with_reducible intro hpath;try exact zP)|(refine hK' _ _ ?_;clear hK' K')|fail);try refine zS ?_))|(refine zE ?_;refine hK _ _ ?_;clear hK K)|(refine zN ?_;try refine zS ?_)|refine zA ?_|(refine zB ?_;intro K hK)|(refine zC ?_ ?_<;>(try refine zH ?_)<;>intro hcond<;>try exact zX)|fail)
    rw [hzs];refine ⟨v+1,Weak.headF 1 22 [0,1,5,6] (zc @hln (zc @hdv Qw9)) zW,?_,?_⟩
    ·exact hvl
    ·omega
   ·rw [if_neg hp] at hss;have hpI: ¬((wv%2:Nat):Int)=1:=by omega
    repeat' (first|((first|(refine zT ?_;intro K' hK')|(refine zG ?_ ?_<;>(try refine zH ?_)<;>intro hguard<;>(try exact zX)<;>try intro K' hK'))<;>((try simp+contextual only [go_sem,hvI,m1,m2,hpI,A0e,A35,Int.toNat_natCast]);(repeat' first|(with_reducible refine hK' _ _ ?_;clear hK' K')|exact zY|with_reducible refine Qw8 ?_ ?_|(with_reducible intro hpath;try exact zP)|(refine hK' _ _ ?_;clear hK' K')|fail);try refine zS ?_))|(refine zE ?_;refine hK _ _ ?_;clear hK K)|(refine zN ?_;try refine zS ?_)|refine zA ?_|(refine zB ?_;intro K hK)|(refine zC ?_ ?_<;>(try refine zH ?_)<;>intro hcond<;>try exact zX)|fail)
    rw [<-hss];refine ⟨v+1,Weak.headF 1 22 [0,1,5,6] (zc @hdv Qw9) zW,?_,?_⟩
    ·exact hvl
    ·omega
  ·have hnl: ¬(v:Int)<(n:Int):=by omega
   have ev:v=n:=by omega
   subst ev;refine zR (zc @hnl Qw9) Qw9 Qw9 ?_;simp [A0y,A0x,Blk.cells,ty,Tryz.results103,A0s,A0t,toT,A0d,A0b,A0c,A0a,A0m]
theorem B1e: ∀(a b:List Int),A1O a b=true↔A1Q a b<0
 | [],[]=>by simp [A1O,A1Q]
 | [],_::_=>by simp [A1O,A1Q]
 | _::_,[]=>by simp [A1O,A1Q]
 | x::a,y::b=>by
  have ih:=B1e a b;have h1:=A8X (x:=x) (y:=y);have h2:=C1A (x:=x) (y:=y);show (if x=y then A1O a b else decide (x<y))=true↔(if A5T x y=0 then A1Q a b else A5T x y)<0;by_cases h:x=y
  ·rw [if_pos h,if_pos (h1.2 h)]; exact ih
  ·rw [if_neg h,if_neg (fun q=>h (h1.1 q)),decide_eq_true_eq]; exact h2.symm
theorem B0r (g:G) (hl:g.es.length≤40):ACall Tryz.prog 78 [tG g] (A0k (A0r g)):=by
 have hC:=A36 g (by omega);by_cases hc:checkG g=0
 ·rw [hc] at hC;cases hb:connB g with
  | false=>
   have e:A0r g=13:=by unfold A0r; rw [if_neg (fun q=>q hc),if_neg (by rw [hb]; simp)]
   rw [e];rw [hb] at hC;obtain ⟨n,es⟩:=g;have hC2:ACall Tryz.prog 129 [tG ⟨n,es⟩] (.tup [A0z false,A0k 0]):=hC;refine ACall.of_body Tryz.func78 rfl (by kernel_rfl) ?_;simp only [entry,Tryz.ntmps78,tG];refine zU ?_;refine zR Qw9 (zc hC2 Qw9) Qw9 ?_;simp [A0y,A0x,Blk.cells,ty,Tryz.results78,A0s,A0t,toT,A0d,A0b,A0c,A0a,A0k]
  | true=>
   have e:A0r g=0:=by unfold A0r; rw [if_neg (fun q=>q hc),if_pos hb]
   rw [e];rw [hb] at hC;obtain ⟨n,es⟩:=g;have hC2:ACall Tryz.prog 129 [tG ⟨n,es⟩] (.tup [A0z true,A0k 0]):=hC;refine ACall.of_body Tryz.func78 rfl (by kernel_rfl) ?_;simp only [entry,Tryz.ntmps78,tG];refine zU ?_;refine zR Qw9 (zc hC2 Qw9) Qw9 ?_;simp [A0y,A0x,Blk.cells,ty,Tryz.results78,A0s,A0t,toT,A0d,A0b,A0c,A0a,A0k]
 ·have e:A0r g=checkG g:=if_pos hc;have hC2:ACall Tryz.prog 129 [tG g] (.tup [A0z false,A0k (checkG g)]):=by
   rw [decide_eq_false hc] at hC; exact hC
  rw [e];clear hC;generalize checkG g=er at*;obtain ⟨n,es⟩:=g;refine ACall.of_body Tryz.func78 rfl (by kernel_rfl) ?_;simp only [entry,Tryz.ntmps78,tG];refine zU ?_;refine zR (zc @hc Qw9) (zc hC2 Qw9) Qw9 ?_;simp [A0y,A0x,Blk.cells,ty,Tryz.results78,A0s,A0t,toT,A0d,A0b,A0c,A0a,A0k]
noncomputable def indW (g:G) (w:Nat):G:=B7h g (zI (setN g.n.toNat w))
noncomputable def B90 (g:G) (w:Nat):Bool:=connB (indW g w)
noncomputable def A4S (g:G) (k:Nat):List Nat:=((List.range k).map (·+1)).filter (B90 g)
noncomputable def itS (g:G) (k:Nat):List (List TVal):=(A4S g k).map fun w=>[A0m (zI (setN g.n.toNat w)),A0k (C0x (endsL (indW g w).es))]
theorem A7l (g:G) (k:Nat):A4S g (k+1)=if B90 g (k+1)=true then A4S g k++[k+1] else A4S g k:=by
 unfold A4S;rw [Jq,Jv,JJ];cases h:B90 g (k+1)<;>simp [h]
theorem B91 (g:G) (k:Nat):(itS g k).length=(A4S g k).length:=by simp [itS]
theorem C3W (g:G) {k m:Nat} (h:k≤m): ∃r,A4S g m=A4S g k++r:=by
 obtain ⟨d,rfl⟩: ∃d,m=k+d:=⟨m-k,by omega⟩;clear h
 induction d with
 | zero=>exact ⟨[],by simp⟩
 | succ d ih=>
  obtain ⟨r,hr⟩:=ih;rw [<-WQ,A7l,hr];split
  ·exact ⟨r++[k+d+1],by simp⟩
  ·exact ⟨r,rfl⟩
theorem C3X (g:G) {k m:Nat} (h:k+1≤m) (hc:B90 g (k+1)=true):(itS g m)[(A4S g k).length]? =some [A0m (zI (setN g.n.toNat (k+1))),A0k (C0x (endsL (indW g (k+1)).es))]:=by
 obtain ⟨r,hr⟩:=C3W g h;have hs:=A7l g k;rw [if_pos hc] at hs;unfold itS;rw [QY,hr,hs,Zk,QV (QQ _),JQ];rfl
theorem C3Y {g:G} {m k:Nat} {ts:List TVal} (h:(itS g m)[k]? =some ts): ∃w,(A4S g m)[k]? =some w∧ts=[A0m (zI (setN g.n.toNat w)),A0k (C0x (endsL (indW g w).es))]:=by
 unfold itS at h;rw [QY] at h;cases hx:(A4S g m)[k]? with
 | none=>rw [hx] at h; cases h
 | some w=>rw [hx] at h; exact ⟨w,rfl,(Jw h).symm⟩
structure IndOk (g:G):Prop where
 ind: ∀w,1≤w->w<2^g.n.toNat->indE g (zI (setN g.n.toNat w))=0
 chk: ∀w,1≤w->w<2^g.n.toNat->checkG (indW g w)=0
 len: ∀w,1≤w->w<2^g.n.toNat->(indW g w).es.length≤40
theorem B3Z (g:G) (hI:IndOk g) (h1:1≤g.n∧g.n≤12) (hl:g.es.length≤40):AIter Tryz.prog 155 [.rptr [.int .i64 g.n,.slice (A0f g.es)]] (itS g (2^g.n.toNat-1)):=by
 obtain ⟨n,hn⟩:=XW (show 0≤g.n by omega);have hn12:n≤12:=by omega
 have hpw:=C6q hn12;have hsl:=C6D n hn12;have hgn:g.n.toNat=n:=by omega
 have hget:=fun k h hc=>C3X g (k:=k) (m:=2^g.n.toNat-1) h hc;have hlenI:=B91 g (2^g.n.toNat-1);have hsu:=A7l g;have hs0:(A4S g 0).length=0:=rfl;have hi:=hI.ind;have hck:=hI.chk;have hil:=hI.len;have hind:=fun w=>B6g g (zI (setN g.n.toNat w)) (by omega) (by rw [A35]; have:=A5v g.n.toNat w; omega);have hdW: ∀w,B7h g (zI (setN g.n.toNat w))=indW g w:=fun _=>rfl;have hcw: ∀w,B90 g w=connB (indW g w):=fun _=>rfl;simp only [hdW] at hind;rw [hgn] at*;generalize itS g (2^n-1)=xs at*;generalize B90 g=cW at*;generalize A4S g=sW at*;generalize indW g=iW at*;clear hI hdW;obtain ⟨nI,es⟩:=g;simp only at hn hl h1 ⊢;subst hn;have hn0:0≤(n:Int):=by omega
 have hr1:(-9223372036854775808:Int)≤((2^n:Nat):Int)∧((2^n:Nat):Int)≤9223372036854775807:=by omega
 refine AIter.of_body Tryz.func155 rfl (by kernel_rfl) rfl (fun l J Jx hJ hJx hY=> ?_);simp only [entry,Tryz.ntmps155,ofT,A2T,A04,Xk,Zj,List.length_cons,List.length_nil,Nat.reduceAdd,Nat.reduceSub,List.replicate_succ,List.replicate_zero,List.cons_append,List.nil_append];refine zR Qw9 Qw9 Qw9 ?_;generalize hP:2^n=P at*;rw [show J 0=J (sW 0).length by rw [hs0]];refine AWp.loopS (α:=Nat) 59 (fun k=>[(0,.c (.yld l)),(1,.c (.rptr [.int .i64 (n:Int),.slice (A0f es)])),(3,.c (.int .i64 ((k+1:Nat):Int)))]) (fun k=>[.ghost (J (sW k).length)]) (fun k=>k+1≤P) (fun k=>P-k) (0) (hk:=Weak.headL 1 59 [0,1,3] zW) (h0:=?_) (round:=fun k hI=>?_)
 ·omega
 ·have hk:k+1≤P:=hI;clear hI;by_cases hkl:k+1<P
  ·have hkI:((k+1:Nat):Int)<(P:Int):=by omega
   have hind1:=hind (k+1);rw [hi (k+1) (by omega) hkl] at hind1;have hck1:=hck (k+1) (by omega) hkl;have hil1:=hil (k+1) (by omega) hkl;have hC:=A36 (iW (k+1)) (by omega);rw [hck1] at hC;have hG:=C1h (iW (k+1)) (by omega);rw [hck1,if_neg (by decide)] at hG;have hcw1:=hcw (k+1);have hsu1:=hsu k;have hget1:=hget k (by omega);generalize hw:k+1=w at*;have hwb:w<2^40:=by omega
   have hz0:zI (setN 0 w)=[]:=rfl;refine zJ (stop 5) (zc @hkI (zc @hsl (zc @hn0 Qw9))) Qw9 Qw9 Qw9 ?_;refine AWp.weak (Weak.opens ((fun t f=>[f,f,f,f,t,f,f,f,f,f,f,f,f,f,f,f,f,f,f,f,f,f,f,f,f,f,f,f,f,f,f,f,f,f,f,f,f,f,f,f,f,f,f,f,f,f,f,f,f,f,f,f,f,f,f,f,f,f,f]) true false) 1 (by first | omega | simp)) ?_;simp only [A27,A8q,List.length_cons,List.length_nil,Xv,Nat.reduceAdd,List.cons_append,List.nil_append];refine AWp.loopS (α:=Nat) 59 (fun v=>[(0,.c (.yld l)),(1,.c (.rptr [.int .i64 (n:Int),.slice (A0f es)])),(3,.c (.int .i64 (w:Int))),(4,.c (.slice (A0p (zI (setN v w))) (.chain 1))),(20,.c (.int .i64 (n:Int))),(21,.c (.int .i64 (v:Int)))]) (fun v=>[.ghost (J (sW k).length),.chain (setN v w).length 1]) (fun v=>v≤n) (fun v=>n-v) (0) (hk:=Weak.headL 2 59 [0,1,3,4,20,21] zW) (h0:=?_) (round:=fun v hI=>?_)
   ·exact Xj _
   ·have hv:v≤n:=hI;clear hI;by_cases hvl:v<n
    ·have hvI:(v:Int)<(n:Int):=by omega
     have hv0:0≤(v:Int):=by omega
     have hss:=A65 v w;have hsl2:=A5v v w;have hsh:=C6B w v (by omega);have hdl:w / 2^v≤w:=Nat.div_le_self _ _;have han:=C6C (w / 2^v) (by omega);have hb:B2s w v=w / 2^v%2:=rfl;rw [hb] at hss;generalize w / 2^v=x at*;by_cases hp:x%2=1
     ·rw [if_pos hp] at hss;have hpI:((x%2:Nat):Int)=1:=by omega
      have hzs:=B3M (setN v w) v;rw [<-hss] at hzs;have hln:(setN (v+1) w).length=(setN v w).length+1:=by rw [hss]; simp
      generalize setN v w=d at*;refine zRc (zc @hvI (zc @hv0 (zc @hsh (zc @han (zc @hpI (zc @A0e (zc @A2p (zc @A35 Qw9)))))))) Qw9 @A1p ?_;rw [hzs];refine ⟨v+1,Weak.headF 2 59 [0,1,3,4,20,21] (zc @hln Qw9) zW,?_,?_⟩
      ·exact hvl
      ·omega
     ·rw [if_neg hp] at hss;have hpI: ¬((x%2:Nat):Int)=1:=by omega
      refine zR (zc @hvI (zc @hv0 (zc @hsh (zc @han (zc @hpI (zc @A0e (zc @A35 Qw9))))))) Qw9 Qw9 ?_;rw [<-hss];refine ⟨v+1,Weak.headN 2 59 [0,1,3,4,20,21] zW,?_,?_⟩
      ·exact hvl
      ·omega
    ·have hnl: ¬(v:Int)<(n:Int):=by omega
     have ev:v=n:=by omega
     rw [ev];rw [ev] at hnl;cases hcb:cW w with
     | false=>
      rw [<-hcw1,hcb,show (decide ((0:Int)=0)&&false)=false from rfl] at hC;rw [hcb] at hsu1;simp only [YZ,if_false] at hsu1;generalize iW w=H at*;obtain ⟨hn',hes⟩:=H;refine zR (zc @hnl Qw9) (zc hind1 (zc hC Qw9)) Qw9 ?_;rw [<-hsu1];refine ⟨w,Weak.headN 1 59 [0,1,3] zW,?_,?_⟩
      ·exact hkl
      ·omega
     | true=>
      rw [<-hcw1,hcb,show (decide ((0:Int)=0)&&true)=true from rfl] at hC;rw [hcb,if_pos rfl] at hsu1;have hg2:=hget1 hcb;have hsl3:(sW w).length=(sW k).length+1:=by rw [hsu1]; simp
      generalize iW w=H at*;obtain ⟨hn',hes⟩:=H;simp only at hg2 hG;generalize C0x (endsL hes)=gen at*
      repeat' (first|((with_reducible refine AWp.seq (AWp.of_reg (id:=15) (AReg.pre 3 (fun K hK=>?_))));simp only [List.take_succ_cons,List.take_zero])|((with_reducible refine AWp.of_reg (id:=15) (AReg.pre 3 (fun K hK=>?_)));simp only [List.take_succ_cons,List.take_zero])|((first|(refine zT ?_;intro K' hK')|(refine zG ?_ ?_<;>(try refine zH ?_)<;>intro hguard<;>(try exact zX)<;>try intro K' hK'))<;>((try simp+contextual only [go_sem,hnl]);(repeat' first|(with_reducible refine hK' _ _ ?_;clear hK' K')|((with_reducible first|refine zK hind1 ?_|refine zK hC ?_|refine zK hG ?_);try simp+contextual only [go_sem,hnl])|exact zY|with_reducible refine Qw8 ?_ ?_|(with_reducible intro hpath;try exact zP)|(refine hK' _ _ ?_;clear hK' K')|fail);try refine zS ?_))|(refine zE ?_;refine hK _ _ ?_;clear hK K)|(refine zN ?_;try refine zS ?_)|refine zA ?_|(refine zB ?_;intro K hK)|(refine zC ?_ ?_<;>(try refine zH ?_)<;>intro hcond<;>try exact zX)|fail)
      simp only [Zw,ZW];refine AReg.yield rfl rfl rfl (by rfl) (by with_unfolding_all rfl) (by simp [okBlk]) (hY _ _ hg2) (hJ _) hJx ?_ ?_<;>(try refine zS ?_)<;>refine AReg.rest (fun K hK=> ?_)
      ·
       rw [<-hsl3]
       repeat' (first|((first|(refine zT ?_;intro K' hK')|(refine zG ?_ ?_<;>(try refine zH ?_)<;>intro hguard<;>(try exact zX)<;>try intro K' hK'))<;>((try simp+contextual only [go_sem]);(repeat' first|(with_reducible refine hK' _ _ ?_;clear hK' K')|exact zY|with_reducible refine Qw8 ?_ ?_|(with_reducible intro hpath;try exact zP)|(refine hK' _ _ ?_;clear hK' K')|fail);try refine zS ?_))|(refine zE ?_;refine hK _ _ ?_;clear hK K)|(refine zN ?_;try refine zS ?_)|refine zA ?_|(refine zB ?_;intro K hK)|(refine zC ?_ ?_<;>(try refine zH ?_)<;>intro hcond<;>try exact zX)|fail)
       refine ⟨w,Weak.headN 1 59 [0,1,3] zW,?_,?_⟩
       ·exact hkl
       ·omega
      ·
       repeat' (first|((first|(refine zT ?_;intro K' hK')|(refine zG ?_ ?_<;>(try refine zH ?_)<;>intro hguard<;>(try exact zX)<;>try intro K' hK'))<;>((try simp+contextual only [go_sem]);(repeat' first|(with_reducible refine hK' _ _ ?_;clear hK' K')|exact zY|with_reducible refine Qw8 ?_ ?_|(with_reducible intro hpath;try exact zP)|(refine hK' _ _ ?_;clear hK' K')|fail);try refine zS ?_))|(refine zE ?_;refine hK _ _ ?_;clear hK K)|(refine zN ?_;try refine zS ?_)|refine zA ?_|(refine zB ?_;intro K hK)|(refine zC ?_ ?_<;>(try refine zH ?_)<;>intro hcond<;>try exact zX)|fail)
       exact ⟨Qw7,_,.inr rfl⟩
  ·have hnl: ¬((k+1:Nat):Int)<(P:Int):=by omega
   have ek:k=P-1:=by omega
   refine zR (zc @hnl (zc @hsl (zc @hn0 Qw9))) Qw9 Qw9 ?_;exact ⟨Qw7,_,.inl (by rw [hlenI,ek])⟩
theorem B5k {n w:Nat} {x:Int}:x∈zI (setN n w)↔ ∃a:Nat,x=a∧a<n∧B2s w a=1:=by
 unfold zI setN;rw [QJ];constructor
 ·rintro ⟨a,ha,rfl⟩;rw [ZV,XQ,decide_eq_true_eq] at ha;exact ⟨a,rfl,ha.1,ha.2⟩
 ·rintro ⟨a,rfl,h1,h2⟩;exact ⟨a,by rw [ZV,XQ,decide_eq_true_eq]; exact ⟨h1,h2⟩,rfl⟩
end Go.Proofs.YtdbdfkohpjefjaaGreat
