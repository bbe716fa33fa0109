/- A part of the proof. -/
import Derived.Test.YtdbdfkohpjefjaaGreatPart29
import Derived.Test.YtdbdfkohpjefjaaGreatPart32
set_option linter.all false
set_option maxHeartbeats 4000000
set_option maxRecDepth 100000
namespace Go.Proofs.YtdbdfkohpjefjaaGreat
open Go.Sp
structure Rib (r:R):Prop where
 ok:ROk r
 pos:0<(endsL r.es).length
 few:(endsL r.es).length≤50
 fac:(facesR r).length≤12
section
variable {r:R}
end
section
variable {r:R}
end
def A1H:List Int->List Int->Bool
 | [],[]=>false
 | [],_::_=>true
 | _::_,[]=>false
 | a::us,b::vs=>if a=b then A1H us vs else decide (a<b)
theorem A1Z: ∀a b:List Int,A1H a b=true->A1H b a=false
 | [],[],h=>by simp [A1H] at h
 | [],_::_,_=>rfl
 | _::_,[],h=>by simp [A1H] at h
 | a::us,b::vs,h=>by
  simp only [A1H] at h ⊢;by_cases e:a=b
  ·rw [if_pos e] at h; rw [if_pos e.symm]; exact A1Z us vs h
  ·rw [if_neg e] at h; rw [if_neg (fun x=>e x.symm)];rw [decide_eq_true_eq] at h; rw [decide_eq_false_iff_not]; omega
theorem B0F: ∀a b:List Int,A1H a b=false->A1H b a=false->a=b
 | [],[],_,_=>rfl
 | [],_::_,h,_=>by simp [A1H] at h
 | _::_,[],_,h=>by simp [A1H] at h
 | a::us,b::vs,h,h2=>by
  simp only [A1H] at h h2;by_cases e:a=b
  ·rw [if_pos e] at h; rw [if_pos e.symm] at h2; rw [e,B0F us vs h h2]
  ·rw [if_neg e] at h; rw [if_neg (fun x=>e x.symm)] at h2;rw [decide_eq_false_iff_not] at h h2; omega
theorem A3F: ∀a b c:List Int,A1H b a=false->A1H c b=false->A1H c a=false
 | [],_,[],_,_=>rfl
 | _::_,[],[],h,_=>by simp [A1H] at h
 | a::us,_,[],h,h2=>by
  rename_i x;cases x with
  | nil=>simp [A1H] at h
  | cons b vs=>simp [A1H] at h2
 | [],_,_::_,_,_=>rfl
 | a::us,[],c::ws,h,h2=>by simp [A1H] at h
 | a::us,b::vs,c::ws,h,h2=>by
  simp only [A1H] at h h2 ⊢;by_cases e1:b=a
  ·subst e1;rw [if_pos rfl] at h;by_cases e2:c=b
   ·rw [if_pos e2] at h2 ⊢; exact A3F us vs ws h h2
   ·rw [if_neg e2] at h2 ⊢; exact h2
  ·rw [if_neg e1,decide_eq_false_iff_not] at h;by_cases e2:c=b
   ·rw [if_pos e2] at h2;rw [if_neg (by omega),decide_eq_false_iff_not]; omega
   ·rw [if_neg e2,decide_eq_false_iff_not] at h2;rw [if_neg (by omega),decide_eq_false_iff_not]; omega
theorem B5U (a:List Int):A1H a a=false:=by
 cases h:A1H a a with
 | false=>rfl
 | true=>have:=A1Z a a h; rw [h] at this; cases this
def sortLL (l:List (List Int)):List (List Int):=l.mergeSort fun a b=> !A1H b a
theorem A2l (l:List (List Int)):(sortLL l).Perm l:=List.mergeSort_perm l _
theorem B2b (l:List (List Int)):(sortLL l).Pairwise fun a b=>A1H b a=false:=by
 have:=List.pairwise_mergeSort (le:=fun a b:List Int=> !A1H b a) (fun a b c h1 h2=>by
  simp only [YV] at*; exact A3F a b c h1 h2) (fun a b=>by
  cases h:A1H b a with
  | false=>simp
  | true=>simp [A1Z _ _ h]) l
 exact this.imp fun h=>by simpa using h
theorem A6n {l m:List (List Int)} (hs:m.Pairwise fun a b=>A1H b a=false) (hp:m.Perm l):m=sortLL l:=
 Qj6 (le:=fun a b:List Int=>A1H b a=false) (fun a b _ _ h1 h2=>B0F a b h2 h1) hs (B2b l) (hp.trans (A2l l).symm)
theorem B8B {S m:List (List Int)} {x:List Int} {k:Nat} (hS:S=sortLL m) (hk:k≤S.length) (h1: ∀j y,k≤j->S[j]? =some y->A1H x y=true) (h2: ∀j y,j+1=k->S[j]? =some y->A1H x y=false):
  S.take k++[x]++S.drop k=sortLL (m++[x]):=by
 have hp:=B2b m;rw [<-hS] at hp;have hp2:=hp;rw [<-Wy k S,Qq8] at hp2;have ha: ∀a,a∈S.take k->A1H x a=false:=fun a ha=>by
  obtain ⟨i,hi,rfl⟩:=List.getElem_of_mem ha;rw [Wz] at hi;rw [List.getElem_take];have hkl:k-1<S.length:=by omega
  have h3:=h2 (k-1) S[k-1] (by omega) (Qq hkl);by_cases e:i=k-1
  ·subst e; exact h3
  ·exact A3F _ _ _ (YX.1 hp i (k-1) (by omega) hkl (by omega)) h3
 have hb: ∀b,b∈S.drop k->A1H x b=true:=fun b hb=>by
  obtain ⟨i,hi,rfl⟩:=List.getElem_of_mem hb;rw [List.length_drop] at hi;rw [List.getElem_drop];exact h1 (k+i) _ (by omega) (Qq (by omega))
 refine A6n ?_ ?_
 ·rw [Zj,Qq8];refine ⟨hp2.1,?_,?_⟩
  ·rw [List.singleton_append,WX];exact ⟨fun b hb'=>A1Z _ _ (hb b hb'),hp2.2.1⟩
  ·intro a ha' b hb';rcases XZ.1 hb' with h | h
   ·obtain rfl:=XJ.1 h; exact ha a ha'
   ·exact A3F _ _ _ (ha a ha') (A1Z _ _ (hb b h))
 ·have e1:(S.take k++[x]++S.drop k).Perm (x::(S.take k++S.drop k)):=by
   rw [Zj,List.singleton_append]; exact List.perm_middle
  rw [Wy] at e1;refine e1.trans ?_;rw [hS];exact ((A2l m).cons x).trans (List.perm_append_singleton x m).symm
def C59 (nums:List Int) (fl:List Bool) (T:List Int) (e:Nat):List Int:=
 (T.set (2*(nums.getD e 0).toNat) (if fl.getD e false=true then 2*(e:Int)+1 else 2*(e:Int))).set (2*(nums.getD e 0).toNat+1) (if fl.getD e false=true then 2*(e:Int) else 2*(e:Int)+1)
def invK (nums:List Int) (fl:List Bool) (k:Nat):List Int:=(List.range k).foldl (C59 nums fl) (List.replicate (2*nums.length) 0)
def flB (m bits:Nat):List Bool:=(List.range m).map fun i=>decide (bits / 2^i%2=1)
def behI (to back:List Int) (k:Nat):List Int:=(List.range back.length).map fun j=>if j<k then to.getD (back.getD j 0).toNat 0 else back.getD j 0
def renL (to:List Int) (l:List Int):List Int:=C3L (l.map fun z=>to.getD z.toNat 0)
section
variable {r:R}
end
theorem C0T {b:List Int}:A1H [] b=decide (0<b.length):=by cases b<;>simp [A1H]
theorem C2Q {a:List Int}:A1H a []=false:=by cases a<;>rfl
theorem B8C (a b:List Int) (ha:a.length<2^40) (hb:b.length<2^40):ACall Tryz.prog 153 [A0n a,A0n b] (A0v (A1H a b)):=by
 refine ACall.of_body Tryz.func153 rfl (by kernel_rfl) ?_;simp only [entry,Tryz.ntmps153,A0n];refine zU ?_;refine zR Qw8 Qw8 Qw8 ?_;refine AWp.loopS (α:=Nat) 41 (fun i=>[(0,.c (.slice (A0o a) .none)),(1,.c (.slice (A0o b) .none)),(5,.c (.int .i64 (i:Int)))]) (fun i=>[]) (fun i=>i≤a.length∧i≤b.length∧A1H a b=A1H (a.drop i) (b.drop i)) (fun i=>a.length-i) (0) (hk:=Weak.headL 0 41 [0,1,5] zW) (h0:=?_) (round:=fun i hI=>?_)
 ·exact ⟨Xj _,Xj _,rfl⟩
 ·obtain ⟨hi,hi2,hx⟩:=hI;by_cases h1:i<a.length
  ·have h1I:(i:Int)<a.length:=by omega
   by_cases h2:i<b.length
   ·have h2I:(i:Int)<b.length:=by omega
    have e0:=Qq h1;have e1:=A0w e0;have f0:=Qq h2;have f1:=A0w f0;rw [Zy h1,Zy h2] at hx;simp only [A1H] at hx;generalize a[i]=x at*;generalize b[i]=y at*;by_cases hxy:x=y
    ·rw [if_pos hxy] at hx;refine zR (zc @h1I (zc @h2I (zc @A0e (zc @e1 (zc @f1 (zc @hxy Qw8)))))) Qw8 Qw8 ?_;refine ⟨i+1,Weak.headN 0 41 [0,1,5] zW,?_,?_⟩
     ·exact ⟨h1,h2,hx⟩
     ·omega
    ·rw [if_neg hxy] at hx;rw [hx];by_cases hlt:x<y
     ·rw [decide_eq_true hlt];refine zR (zc @h1I (zc @h2I (zc @A0e (zc @e1 (zc @f1 (zc @hxy (zc @hlt Qw8))))))) Qw8 Qw8 ?_;simp [A0z,A0y,Blk.cells,ty,Tryz.results153,A0t,A0u,toT,A0d,A0b,A0c,A0a,A0v]
     ·rw [decide_eq_false hlt];refine zR (zc @h1I (zc @h2I (zc @A0e (zc @e1 (zc @f1 (zc @hxy (zc @hlt Qw8))))))) Qw8 Qw8 ?_;simp [A0z,A0y,Blk.cells,ty,Tryz.results153,A0t,A0u,toT,A0d,A0b,A0c,A0a,A0v]
   ·have h2I: ¬((i:Int)<b.length):=by omega
    have e:A1H a b=false:=by rw [hx,Vx (show b.length≤i by omega),C2Q]
    have hab: ¬((a.length:Int)<b.length):=by omega
    rw [e];refine zR (zc @h1I (zc @h2I (zc @A0e (zc @hab Qw8)))) Qw8 Qw8 ?_;simp [A0z,A0y,Blk.cells,ty,Tryz.results153,A0t,A0u,toT,A0d,A0b,A0c,A0a,A0v]
  ·have h1I: ¬((i:Int)<a.length):=by omega
   have ei:i=a.length:=by omega
   have e:A1H a b=decide (0<(b.drop i).length):=by rw [hx,Vx (show a.length≤i by omega),C0T]
   rw [List.length_drop] at e;rw [e];by_cases hab:(a.length:Int)<b.length
   ·rw [decide_eq_true (by omega)];refine zR (zc @h1I (zc @A0e (zc @hab Qw8))) Qw8 Qw8 ?_;simp [A0z,A0y,Blk.cells,ty,Tryz.results153,A0t,A0u,toT,A0d,A0b,A0c,A0a,A0v]
   ·rw [decide_eq_false (by omega)];refine zR (zc @h1I (zc @A0e (zc @hab Qw8))) Qw8 Qw8 ?_;simp [A0z,A0y,Blk.cells,ty,Tryz.results153,A0t,A0u,toT,A0d,A0b,A0c,A0a,A0v]
theorem B3z (l:List (List Int)) (i:Nat):(A0x l).take i=A0x (l.take i):=by simp [A0x]
theorem B30 (l:List (List Int)) (i:Nat):(A0x l).drop i=A0x (l.drop i):=by simp [A0x]
theorem A9Q {A:List (List Int)} {x:List Int} {r:List Tree} (h:r∈A0x A++[[Tree.slice (A0o x)]]):r.length=1:=by
 rcases XZ.1 h with h | h
 ·exact A2u h
 ·rw [XJ.1 h]; rfl
theorem B5V (l:List (List Int)) (hl:l.length<2^30) (hll: ∀x,x∈l->x.length<2^40):ACall Tryz.prog 104 [A0N l] (A0N (sortLL l)):=by
 have hz:sortLL ([]:List (List Int))=[]:=List.Perm.eq_nil (A2l []);refine ACall.of_body Tryz.func104 rfl (by kernel_rfl) ?_;simp only [entry,Tryz.ntmps104,A0N];refine zU ?_;refine zJ (stop 2) trivial trivial trivial trivial ?_;refine AWp.weak (Weak.opens ((fun t f=>[f,f,f,t,f,f,f,f,f,f,f,f,f,f,f,f,f,f,f,f,f,f,f,f,f,f,f,f,f,f,f,f,f,f,f,f,f,f,f,f,f,f,f,f,f,f,f,f]) true false) 1 (by first | omega | simp)) ?_;simp only [A2i,A66,List.length_cons,List.length_nil,Xw,Nat.reduceAdd,List.cons_append,List.nil_append];refine AWp.weak (Weak.untok 3 rfl) ?_;simp only [List.set_cons_succ,List.set_cons_zero];refine zR Qw8 Qw8 Qw8 ?_;refine AWp.loopS (α:=(Nat×List (List Int))) 48 (fun s=>[(0,.c (.slice (A0x l) .none)),(3,.c (.slice (A0x s.2) .none)),(4,.c (.int .i64 (s.1:Int)))]) (fun s=>[]) (fun s=>s.1≤l.length∧s.2=sortLL (l.take s.1)) (fun s=>l.length-s.1) ((0,[])) (hk:=Weak.headL 0 48 [0,3,4] zW) (h0:=?_) (round:=fun s hI=>?_)
 ·exact ⟨Xj _,hz.symm⟩
 ·obtain ⟨i,S⟩:=s;obtain ⟨hi,hS⟩:=hI;simp only at hi hS ⊢;have hSl:S.length=i:=by rw [hS,(A2l _).length_eq,Wz]; omega
  have hSm: ∀y,y∈S->y.length<2^40:=fun y hy=>by
   rw [hS] at hy;exact hll y (Vv ((A2l _).mem_iff.1 hy))
  by_cases hlt:i<l.length
  ·have hltI:(i:Int)<(l.length:Int):=by omega
   have e0:=Qq hlt;have e1:=A0X e0;have hxl:=hll _ (Xv hlt);have hsn:=XX hlt;generalize l[i]=x at*;have hins:=fun k hk h1 h2=>B8B (x:=x) (k:=k) hS hk h1 h2;rw [<-hsn] at hins;clear hS;refine zR (zc @hltI (zc @A0q Qw8)) Qw8 Qw8 ?_;refine AWp.loopS (α:=Nat) 48 (fun k=>[(0,.c (.slice (A0x l) .none)),(3,.c (.slice (A0x S) .none)),(4,.c (.int .i64 (i:Int))),(5,.c (.int .i64 (k:Int)))]) (fun k=>[]) (fun k=>k≤S.length∧ ∀j y,k≤j->S[j]? =some y->A1H x y=true) (fun k=>k) (S.length) (hk:=Weak.headL 0 48 [0,3,4,5] zW) (h0:=?_) (round:=fun k hI=>?_)
   ·exact ⟨QQ _,fun j y hj hy=>by rw [QV hj] at hy; cases hy⟩
   ·obtain ⟨hk,hgt⟩:=hI;have hkI:(k:Int)≤(S.length:Int):=by omega
    have hd:(A0x S).drop k=A0x (S.drop k):=B30 S _;have ht:(A0x S).take k=A0x (S.take k):=B3z S _;have hta:(A0x S).take S.length=A0x S:=Zz (by rw [A0q]; exact QQ _);have hcat:A0x (S.take k)++[[Tree.slice (A0o x)]]++A0x (S.drop k)=A0x (S.take k++[x]++S.drop k):=by simp [A0x]
    have hlA:(S.take k).length=k:=by rw [Wz]; omega
    have hdl:((A0x S).drop k).length=S.length-k:=by rw [List.length_drop,A0q]
    have hlB:(S.drop k).length=S.length-k:=List.length_drop ..;cases k with
    | zero=>
     have hi2:=hins 0 hk hgt (fun j y hj=>by omega);rw [hi2] at hcat;generalize hA:S.take 0=A at*;generalize hB:S.drop 0=B at*;generalize hS2:sortLL (l.take (i+1))=S2 at*
     repeat' (first|((first|(refine zT ?_;intro K' hK')|(refine zG ?_ ?_<;>(try refine zH ?_)<;>intro hguard<;>(try exact zX)<;>try intro K' hK'))<;>((try simp+contextual only [go_sem,e1,A0q,Int.toNat_natCast,Int.toNat_zero,hkI,hltI,hd,ht,hta,hcat,hlA,hlB,hdl,chunks,List.range,List.range.loop,Option.isSome_none,Option.isSome_some,YQ,false_and,not_false_eq_true]);(repeat' first|(with_reducible refine hK' _ _ ?_;clear hK' K')|(with_reducible exact A2u (by assumption))|(exact .inr Qw6)|(with_reducible exact A9Q (by assumption))|exact zY|with_reducible refine Qw7 ?_ ?_|(with_reducible intro hpath;try exact zP)|(refine hK' _ _ ?_;clear hK' K')|fail);try refine zS ?_))|(refine zE ?_;refine hK _ _ ?_;clear hK K)|(refine zN ?_;try refine zS ?_)|refine zA ?_|(refine zB ?_;intro K hK)|(refine zC ?_ ?_<;>(try refine zH ?_)<;>intro hcond<;>try exact zX)|fail)
     refine ⟨(i+1,S2),(Weak.untok 3 rfl).trans (Weak.headN 0 48 [0,3,4] zW),?_,?_⟩
     ·exact ⟨hlt,hS2.symm⟩
     ·simp only; omega
    | succ j=>
     have hj1:((j+1:Nat):Int)-1=(j:Int):=by omega
     have hj2:(0:Int)<((j+1:Nat):Int):=by omega
     have hj3:(j:Int)<(S.length:Int):=by omega
     have f0:=Qq (show j<S.length by omega);have f1:=A0X f0;have hBf:=B8C x S[j] hxl (hSm _ (Xv _));generalize S[j]=y at*;cases hxy:A1H x y with
     | true=>
      rw [hxy] at hBf;refine zR (zc @e1 (zc @f1 (zc @hj1 (zc @hj2 (zc @hj3 (zc @hltI (zc @A0q Qw8))))))) (zc hBf Qw8) Qw8 ?_;refine ⟨j,Weak.headN 0 48 [0,3,4,5] zW,?_,?_⟩
      ·refine ⟨by omega,fun q z hq hz=> ?_⟩;by_cases e:q=j
       ·subst e; rw [f0] at hz; cases hz; exact hxy
       ·exact hgt q z (by omega) hz
      ·omega
     | false=>
      have hi2:=hins (j+1) hk hgt (fun q z hq hz=>by
       have:q=j:=by omega
       subst this; rw [f0] at hz; cases hz; exact hxy)
      rw [hi2] at hcat;rw [hxy] at hBf;generalize hA:S.take (j+1)=A at*;generalize hB:S.drop (j+1)=B at*;generalize hS2:sortLL (l.take (i+1))=S2 at*
      repeat' (first|((first|(refine zT ?_;intro K' hK')|(refine zG ?_ ?_<;>(try refine zH ?_)<;>intro hguard<;>(try exact zX)<;>try intro K' hK'))<;>((try simp+contextual only [go_sem,e1,f1,hj1,hj2,hj3,A0q,Int.toNat_natCast,Int.toNat_zero,hkI,hltI,hd,ht,hta,hcat,hlA,hlB,hdl,chunks,List.range,List.range.loop,Option.isSome_none,Option.isSome_some,YQ,false_and,not_false_eq_true]);(repeat' first|(with_reducible refine hK' _ _ ?_;clear hK' K')|(with_reducible refine zK hBf ?_;try simp+contextual only [go_sem,e1,f1,hj1,hj2,hj3,A0q,Int.toNat_natCast,Int.toNat_zero,hkI,hltI,hd,ht,hta,hcat,hlA,hlB,hdl,chunks,List.range,List.range.loop,Option.isSome_none,Option.isSome_some,YQ,false_and,not_false_eq_true])|(with_reducible exact A2u (by assumption))|(exact .inr Qw6)|(with_reducible exact A9Q (by assumption))|exact zY|with_reducible refine Qw7 ?_ ?_|(with_reducible intro hpath;try exact zP)|(refine hK' _ _ ?_;clear hK' K')|fail);try refine zS ?_))|(refine zE ?_;refine hK _ _ ?_;clear hK K)|(refine zN ?_;try refine zS ?_)|refine zA ?_|(refine zB ?_;intro K hK)|(refine zC ?_ ?_<;>(try refine zH ?_)<;>intro hcond<;>try exact zX)|fail)
      refine ⟨(i+1,S2),(Weak.untok 3 rfl).trans (Weak.headN 0 48 [0,3,4] zW),?_,?_⟩
      ·exact ⟨hlt,hS2.symm⟩
      ·simp only; omega
  ·have ei:i=l.length:=by omega
   have hnl: ¬((i:Int)<(l.length:Int)):=by omega
   rw [ei,Zw] at hS;rw [<-hS];refine zR (zc @hnl (zc @A0q Qw8)) Qw8 Qw8 ?_;simp [A0z,A0y,Blk.cells,ty,Tryz.results104,A0t,A0u,toT,A0d,A0b,A0c,A0a,A0N]
def B0G (i:Nat):Nat:=2^i
def A58 (w v:Nat):Nat:=w / 2^v
theorem A9R (w v:Nat):A58 w (v+1)=A58 w v / 2:=by unfold A58; rw [Nat.pow_succ,Nat.div_div_eq_div_mul]
theorem C4m (w:Nat):Int.tmod (w:Int) 2=((w%2:Nat):Int):=rfl
theorem C4n (w:Nat):Int.tdiv (w:Int) 2=((w / 2:Nat):Int):=rfl
theorem C2R (n w:Nat) (hn:n≤60) (hw:w<2^40):ACall Tryz.prog 103 [A0m n,A0m w] (A0n (zI (setN n w))):=by
 refine ACall.of_body Tryz.func103 rfl (by kernel_rfl) ?_;simp only [entry,Tryz.ntmps103,A0m];refine zU ?_;refine zR Qw8 Qw8 Qw8 ?_;refine AWp.weak (Weak.opens ((fun t f=>[f,f,f,f,f,t,f,f,f,f,f,f,f,f,f,f,f,f,f,f,f,f]) true false) 1 (by first | omega | simp)) ?_;simp only [A2i,A66,List.length_cons,List.length_nil,Xw,Nat.reduceAdd,List.cons_append,List.nil_append];rw [show (w:Int)=(A58 w 0:Int) by unfold A58; simp];refine AWp.loopS (α:=Nat) 22 (fun v=>[(0,.c (.int .i64 (n:Int))),(1,.c (.int .i64 (A58 w v:Int))),(5,.c (.slice (A0o (zI (setN v w))) (.chain 0))),(6,.c (.int .i64 (v:Int)))]) (fun v=>[.chain (setN v w).length 1]) (fun v=>v≤n) (fun v=>n-v) (0) (hk:=Weak.headL 1 22 [0,1,5,6] zW) (h0:=?_) (round:=fun v hI=>?_)
 ·exact Xj _
 ·have hv:v≤n:=hI;clear hI;by_cases hvl:v<n
  ·have hvI:(v:Int)<(n:Int):=by omega
   have hss:=A4D v w;have hsl2:=A28 v w;have hwv:A58 w v≤w:=Nat.div_le_self _ _;have hdv:=A9R w v;have hb:B0V w v=A58 w v%2:=rfl;rw [hb] at hss;generalize A58 w v=wv at*;have m1:=C4m wv;have m2:=C4n wv;by_cases hp:wv%2=1
   ·rw [if_pos hp] at hss;have hpI:((wv%2:Nat):Int)=1:=by omega
    have hzs:=B0A (setN v w) v;rw [<-hss] at hzs;have hln:(setN (v+1) w).length=(setN v w).length+1:=by rw [hss]; simp
    generalize setN v w=d at*
    repeat' (first|((first|(refine zT ?_;intro K' hK')|(refine zG ?_ ?_<;>(try refine zH ?_)<;>intro hguard<;>(try exact zX)<;>try intro K' hK'))<;>((try simp+contextual only [go_sem,hvI,m1,m2,hpI,A0e,A1O,A2d,Int.toNat_natCast,chunks,List.range,List.range.loop]);(repeat' first|(with_reducible refine hK' _ _ ?_;clear hK' K')|(with_reducible exact A1s (by assumption))|exact zY|with_reducible refine Qw7 ?_ ?_|(with_reducible intro hpath;try exact zP)|(refine hK' _ _ ?_;clear hK' K')|fail);try refine zS ?_))|(refine zE ?_;refine hK _ _ ?_;clear hK K)|(refine zN ?_;try refine zS ?_)|refine zA ?_|(refine zB ?_;intro K hK)|(refine zC ?_ ?_<;>(try refine zH ?_)<;>intro hcond<;>try exact zX)|fail)
    rw [hzs];refine ⟨v+1,Weak.headF 1 22 [0,1,5,6] (zc @hln (zc @hdv Qw8)) zW,?_,?_⟩
    ·exact hvl
    ·omega
   ·rw [if_neg hp] at hss;have hpI: ¬((wv%2:Nat):Int)=1:=by omega
    repeat' (first|((first|(refine zT ?_;intro K' hK')|(refine zG ?_ ?_<;>(try refine zH ?_)<;>intro hguard<;>(try exact zX)<;>try intro K' hK'))<;>((try simp+contextual only [go_sem,hvI,m1,m2,hpI,A0e,A2d,Int.toNat_natCast]);(repeat' first|(with_reducible refine hK' _ _ ?_;clear hK' K')|exact zY|with_reducible refine Qw7 ?_ ?_|(with_reducible intro hpath;try exact zP)|(refine hK' _ _ ?_;clear hK' K')|fail);try refine zS ?_))|(refine zE ?_;refine hK _ _ ?_;clear hK K)|(refine zN ?_;try refine zS ?_)|refine zA ?_|(refine zB ?_;intro K hK)|(refine zC ?_ ?_<;>(try refine zH ?_)<;>intro hcond<;>try exact zX)|fail)
    rw [<-hss];refine ⟨v+1,Weak.headF 1 22 [0,1,5,6] (zc @hdv Qw8) zW,?_,?_⟩
    ·exact hvl
    ·omega
  ·have hnl: ¬(v:Int)<(n:Int):=by omega
   have ev:v=n:=by omega
   subst ev;refine zR (zc @hnl Qw8) Qw8 Qw8 ?_;simp [A0z,A0y,Blk.cells,ty,Tryz.results103,A0t,A0u,toT,A0d,A0b,A0c,A0a,A0n]
theorem B0H: ∀(a b:List Int),A1H a b=true↔A1K a b<0
 | [],[]=>by simp [A1H,A1K]
 | [],_::_=>by simp [A1H,A1K]
 | _::_,[]=>by simp [A1H,A1K]
 | x::a,y::b=>by
  have ih:=B0H a b;have h1:=A86 (x:=x) (y:=y);have h2:=C0A (x:=x) (y:=y);show (if x=y then A1H a b else decide (x<y))=true↔(if A59 x y=0 then A1K a b else A59 x y)<0;by_cases h:x=y
  ·rw [if_pos h,if_pos (h1.2 h)]; exact ih
  ·rw [if_neg h,if_neg (fun q=>h (h1.1 q)),decide_eq_true_eq]; exact h2.symm
theorem B42 {n w:Nat} {x:Int}:x∈zI (setN n w)↔ ∃a:Nat,x=a∧a<n∧B0V w a=1:=by
 unfold zI setN;rw [Xq];constructor
 ·rintro ⟨a,ha,rfl⟩;rw [YW,XQ,decide_eq_true_eq] at ha;exact ⟨a,rfl,ha.1,ha.2⟩
 ·rintro ⟨a,rfl,h1,h2⟩;exact ⟨a,by rw [YW,XQ,decide_eq_true_eq]; exact ⟨h1,h2⟩,rfl⟩
structure Tw (r d b:R) (l m:List Int) (E B:Nat):Prop where
 d1:dualD r=d
 d2:dualE r=0
 d3:dualN r=l
 b1:dualD d=b
 b2:dualE d=0
 b3:dualN d=m
 sd:RSm d
 sb:RSm b
 ed:ribE d=0
 eb:ribE b=0
 gen:genusR d=genusR r
 bn:b.n=r.n
 ll:l.length=E
 ml:m.length=E
 e9:E≤9
 eE:(endsL r.es).length=E
 lr: ∀x,x∈l->0≤x∧x<E
 mr: ∀x,x∈m->0≤x∧x<E
 br: ∀w,w∈b.ar-> ∀x,x∈w->0≤x∧x<2*E
 hB:B<2^E
 test:sortLL (b.ar.map (renL (behI (invK l (flB E B) l.length) (invK m (List.replicate E false) m.length) (2*E))))=sortLL r.ar
end Go.Proofs.YtdbdfkohpjefjaaGreat
