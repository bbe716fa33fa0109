/- A part of the proof. -/
import Derived.Test.YtdhfgihnoimoaaaPart04
import Derived.Test.YtdhfgihnoimoaaaPart05
import Derived.Test.YtdhfgihnoimoaaaLayerC
import Derived.Test.YtdhfgihnoimoaaaPart03
set_option linter.all false
set_option maxHeartbeats 4000000
set_option maxRecDepth 100000
namespace Go.Proofs.Ytdhfgihnoimoaaa
open Go.Sp
def A0q (l:List Int):List (List Tree):=l.map fun x=>[.int .i64 x]
def A00 (l:List Int):TVal:= .t (.slice (A0q l))
attribute [go_sem] A00
theorem A0l (l:List Int):(A0q l).length=l.length:=by simp [A0q]
theorem A0T {l:List Int} {i:Nat} {x:Int} (h:l[i]? =some x):(A0q l)[i]? =some [.int .i64 x]:=by simp [A0q,h]
theorem A1P {l:List Int} {r:List Tree} (h:r∈A0q l):r.length=1:=by
 obtain ⟨x,_,rfl⟩:=List.mem_map.1 h; rfl
theorem A1Z (l:List Int) (a:Int):A0q l++[[.int .i64 a]]=A0q (l++[a]):=by simp [A0q]
theorem A4D (l m:List Int) (hl:l.length<2^40) (hm:m.length<2^40):ACall Try.prog 13 [A00 l,A00 m] (A0G (decide (l=m))):=by
 refine ACall.of_body Try.func13 rfl (by kernel_rfl) ?_
 simp only [entry,Try.ntmps13,A00]
 refine zU ?_
 repeat' (first|((first|(refine zT ?_;intro K' hK')|(refine zG ?_ ?_<;>(try refine zH ?_)<;>intro hguard<;>(try exact zX)<;>try intro K' hK'))<;>((try simp+contextual only [go_sem,A0l]);(repeat' first|(with_reducible refine hK' _ _ ?_;clear hK' K')|exact zY|with_reducible refine And.intro ?_ ?_|(with_reducible intro hpath;try exact zP)|(refine hK' _ _ ?_;clear hK' K')|fail);try refine zS ?_))|(refine zE ?_;refine hK _ _ ?_;clear hK K)|(refine zN ?_;try refine zS ?_)|refine zA ?_|(refine zB ?_;intro K hK)|(refine zC ?_ ?_<;>(try refine zH ?_)<;>intro hcond<;>try exact zX)|fail)
 ·have e: ¬l=m:=fun e=>by subst e; omega
  simp [A0J,A0I,Blk.cells,ty,Try.results13,A05,A08,toT,A0e,A0c,A0d,A0a,A0G,e]
 ·have hlm:l.length=m.length:=by omega
  refine AWp.loopS (α:=Nat) 26 (fun k=>[(0,.c (.slice (A0q l) .none)),(1,.c (.slice (A0q m) .none)),(12,.c (.int .i64 l.length)),(13,.c (.int .i64 (k:Int)))]) (fun k=>[]) (fun k=>k≤l.length∧ ∀j,j<k→l[j]? =m[j]?) (fun k=>l.length-k) (0) (hk:=A0r.headL 0 26 [0,1,12,13] zW) (h0:=?_) (round:=fun k hI=>?_)
  ·exact ⟨Nat.zero_le _,fun j hj=>by omega⟩
  ·obtain ⟨hk,hx⟩:=hI
   by_cases hlt:k<l.length
   ·have hlt2:k<m.length:=by omega
    have e1:=A0T (List.getElem?_eq_getElem hlt)
    have e2:=A0T (List.getElem?_eq_getElem hlt2)
    repeat' (first|((first|(refine zT ?_;intro K' hK')|(refine zG ?_ ?_<;>(try refine zH ?_)<;>intro hguard<;>(try exact zX)<;>try intro K' hK'))<;>((try simp+contextual only [go_sem,e1,e2,Int.toNat_natCast,Int.ofNat_lt]);(repeat' first|(with_reducible refine hK' _ _ ?_;clear hK' K')|exact zY|with_reducible refine And.intro ?_ ?_|(with_reducible intro hpath;try exact zP)|(refine hK' _ _ ?_;clear hK' K')|fail);try refine zS ?_))|(refine zE ?_;refine hK _ _ ?_;clear hK K)|(refine zN ?_;try refine zS ?_)|refine zA ?_|(refine zB ?_;intro K hK)|(refine zC ?_ ?_<;>(try refine zH ?_)<;>intro hcond<;>try exact zX)|fail)
    ·have e: ¬l=m:=fun e=>by subst e; omega
     simp [A0J,A0I,Blk.cells,ty,Try.results13,A05,A08,toT,A0e,A0c,A0d,A0a,A0G,e]
    ·refine ⟨k+1,A0r.headN 0 26 [0,1,12,13] zW,?_,?_⟩
     ·refine ⟨hlt,fun j hj=> ?_⟩
      by_cases hjk:j=k
      ·subst hjk; rw [List.getElem?_eq_getElem hlt,List.getElem?_eq_getElem hlt2]; congr 1
      ·exact hx j (by omega)
     ·omega
   ·have e:l=m:=List.ext_getElem? fun j=>by
     by_cases hj:j<l.length
     ·exact hx j (by omega)
     ·rw [List.getElem?_eq_none (by omega),List.getElem?_eq_none (by omega)]
    refine zR (zc @Int.ofNat_lt trivial) trivial trivial ?_
    simp [A0J,A0I,Blk.cells,ty,Try.results13,A05,A08,toT,A0e,A0c,A0d,A0a,A0G,e]
def atE (g:G) (vs:List Int):Int:=if checkG g≠0 then checkG g else if ∀v,v∈vs→0≤v∧v<g.n then 0 else 2
theorem B9K (g:G) (vs:List Int) (hl:g.es.length<2^40) (hv:vs.length<2^40):ACall Try.prog 115 [tG g,A00 vs] (A0j (atE g vs)):=by
 refine ACall.of_body Try.func115 rfl (by kernel_rfl) ?_
 simp only [entry,Try.ntmps115,tG,A00]
 refine zU ?_
 repeat' (first|((first|(refine zT ?_;intro K' hK')|(refine zG ?_ ?_<;>(try refine zH ?_)<;>intro hguard<;>(try exact zX)<;>try intro K' hK'))<;>((try simp+contextual only [go_sem,A0l]);(repeat' first|(with_reducible refine hK' _ _ ?_;clear hK' K')|(with_reducible refine zK (A6V g hl) ?_;try simp+contextual only [go_sem,A0l])|exact zY|with_reducible refine And.intro ?_ ?_|(with_reducible intro hpath;try exact zP)|(refine hK' _ _ ?_;clear hK' K')|fail);try refine zS ?_))|(refine zE ?_;refine hK _ _ ?_;clear hK K)|(refine zN ?_;try refine zS ?_)|refine zA ?_|(refine zB ?_;intro K hK)|(refine zC ?_ ?_<;>(try refine zH ?_)<;>intro hcond<;>try exact zX)|fail)
 ·have e:atE g vs=checkG g:=by unfold atE; rw [if_pos (by assumption)]
  simp [A0J,A0I,Blk.cells,ty,Try.results115,A05,A08,toT,A0e,A0c,A0d,A0a,A0j,e]
 ·have hc:checkG g=0:=by omega
  refine AWp.loopS (α:=Nat) 25 (fun k=>[(2,.c (.ptr 0 0)),(13,.c (.slice (A0q vs) .none)),(14,.c (.int .i64 vs.length)),(15,.c (.int .i64 (k:Int)))]) (fun k=>[.box [.int .i64 g.n,.slice (A0b g.es) .none]]) (fun k=>k≤vs.length∧ ∀j,j<k→ ∀v,vs[j]? =some v→0≤v∧v<g.n) (fun k=>vs.length-k) (0) (hk:=A0r.headL 1 25 [2,13,14,15] zW) (h0:=?_) (round:=fun k hI=>?_)
  ·exact ⟨Nat.zero_le _,fun j hj=>by omega⟩
  ·obtain ⟨hk,hx⟩:=hI
   by_cases hlt:k<vs.length
   ·have e0:=List.getElem?_eq_getElem hlt
    have e1:=A0T e0
    repeat' (first|((first|(refine zT ?_;intro K' hK')|(refine zG ?_ ?_<;>(try refine zH ?_)<;>intro hguard<;>(try exact zX)<;>try intro K' hK'))<;>((try simp+contextual only [go_sem,e1,Int.toNat_natCast,Int.ofNat_lt]);(repeat' first|(with_reducible refine hK' _ _ ?_;clear hK' K')|(with_reducible refine zK (B01 _ _) ?_;try simp+contextual only [go_sem,e1,Int.toNat_natCast,Int.ofNat_lt])|exact zY|with_reducible refine And.intro ?_ ?_|(with_reducible intro hpath;try exact zP)|(refine hK' _ _ ?_;clear hK' K')|fail);try refine zS ?_))|(refine zE ?_;refine hK _ _ ?_;clear hK K)|(refine zN ?_;try refine zS ?_)|refine zA ?_|(refine zB ?_;intro K hK)|(refine zC ?_ ?_<;>(try refine zH ?_)<;>intro hcond<;>try exact zX)|fail)
    ·have e:atE g vs=2:=by
      unfold atE
      rw [if_neg (by omega),if_neg]
      intro h
      have:=h vs[k] (List.getElem_mem hlt)
      simp_all
     simp [A0J,A0I,Blk.cells,ty,Try.results115,A05,A08,toT,A0e,A0c,A0d,A0a,A0j,e]
    ·refine ⟨k+1,A0r.headN 1 25 [2,13,14,15] zW,?_,?_⟩
     ·refine ⟨hlt,fun j hj v hjv=> ?_⟩
      by_cases hjk:j=k
      ·subst hjk; rw [e0] at hjv; cases hjv; simp_all
      ·exact hx j (by omega) v hjv
     ·omega
   ·have e:atE g vs=0:=by
     unfold atE
     rw [if_neg (by omega),if_pos]
     intro v hv
     obtain ⟨j,hj⟩:=List.mem_iff_getElem?.1 hv
     exact hx j (by have:=(List.getElem?_eq_some_iff.1 hj).1; omega) v hj
    refine zR (zc @Int.ofNat_lt trivial) trivial trivial ?_
    simp [A0J,A0I,Blk.cells,ty,Try.results115,A05,A08,toT,A0e,A0c,A0d,A0a,A0j,e]
def A9Z (v:Int):List E→Int
 | []=>0
 | x::xs=>(if x.a≠x.b∧(x.a=v∨x.b=v) then x.m else 0)+A9Z v xs
theorem B17 (v:Int) (a b:List E):A9Z v (a++b)=A9Z v a+A9Z v b:=by
 induction a with
 | nil=>simp [A9Z]
 | cons x xs ih=>simp only [List.cons_append,A9Z,ih]; omega
theorem B4E {v:Int} {es:List E} {i:Nat} (h:i<es.length):A9Z v (es.take (i+1))=A9Z v (es.take i)+(if es[i].a≠es[i].b∧(es[i].a=v∨es[i].b=v) then es[i].m else 0):=by
 rw [List.take_succ_eq_append_getElem h,B17]; simp [A9Z]
theorem B3s {v:Int} {es:List E} (h: ∀e,e∈es→1≤e.m∧e.m≤50):0≤A9Z v es∧A9Z v es≤50*es.length:=by
 induction es with
 | nil=>simp [A9Z]
 | cons x xs ih=>
  have h1:=h x (by simp)
  have h2:=ih fun e he=>h e (by simp [he])
  simp only [A9Z,List.length_cons]
  split<;>omega
theorem B3t (g:G) (v:Int) (hl:g.es.length<2^30):ACall Try.prog 96 [tG g,A0j v] (.tup [A0j (if atE g [v]≠0 then 0 else A9Z v g.es),A0j (atE g [v])]):=by
 refine ACall.of_body Try.func96 rfl (by kernel_rfl) ?_
 simp only [entry,Try.ntmps96,tG,A0j]
 refine zU ?_
 repeat' (first|((first|(refine zT ?_;intro K' hK')|(refine zG ?_ ?_<;>(try refine zH ?_)<;>intro hguard<;>(try exact zX)<;>try intro K' hK'))<;>((try simp+contextual only [go_sem,chunks,List.range,List.range.loop,A0u]);(repeat' first|(with_reducible refine hK' _ _ ?_;clear hK' K')|(with_reducible refine zL (c:=B9K g [v] (by omega) (by simp)) (q:=?_);try simp+contextual only [go_sem,chunks,List.range,List.range.loop,A0u])|exact zY|with_reducible refine And.intro ?_ ?_|(with_reducible intro hpath;try exact zP)|(refine hK' _ _ ?_;clear hK' K')|fail);try refine zS ?_))|(refine zE ?_;refine hK _ _ ?_;clear hK K)|(refine zN ?_;try refine zS ?_)|refine zA ?_|(refine zB ?_;intro K hK)|(refine zC ?_ ?_<;>(try refine zH ?_)<;>intro hcond<;>try exact zX)|fail)
 ·rw [if_pos (by assumption)]
  simp [A0J,A0I,Blk.cells,ty,Try.results96,A05,A08,toT,A0e,A0c,A0d,A0a,A0j]
 ·rw [if_neg (by omega)]
  have ha:atE g [v]=0:=by omega
  have hc:checkG g=0:=by unfold atE at ha; split at ha<;>omega
  have hm: ∀e,e∈g.es→1≤e.m∧e.m≤50:=fun e he=>by have:=(A0w.1 hc).2.1 e he; unfold okE at this; omega
  refine AWp.loopS (α:=Nat) 47 (fun i=>[(1,.c (.int .i64 v)),(2,.c (.ptr 0 0)),(7,.c (.int .i64 (A9Z v (g.es.take i)))),(18,.c (.slice (A0b g.es) .none)),(19,.c (.int .i64 (g.es.length:Int))),(20,.c (.int .i64 (i:Int)))]) (fun i=>[.box [.int .i64 g.n,.slice (A0b g.es) .none]]) (fun i=>i≤g.es.length) (fun i=>g.es.length-i) (0) (hk:=A0r.headL 1 47 [1,2,7,18,19,20] zW) (h0:=?_) (round:=fun i hI=>?_)
  ·exact Nat.zero_le _
  ·by_cases hlt:i<g.es.length
   ·have e1:g.es[i]? =some g.es[i]:=List.getElem?_eq_getElem hlt
    have e2:=A1A e1
    have e3:=B4E (v:=v) hlt
    have b1:=B3s (v:=v) (es:=g.es.take i) fun e he=>hm e (List.mem_of_mem_take he)
    have b2:=hm _ (List.getElem_mem hlt)
    rw [List.length_take,Nat.min_eq_left (by omega)] at b1
    repeat' (first|((first|(refine zT ?_;intro K' hK')|(refine zG ?_ ?_<;>(try refine zH ?_)<;>intro hguard<;>(try exact zX)<;>try intro K' hK'))<;>((try simp+contextual only [go_sem,e2,Int.toNat_natCast,Int.ofNat_lt]);(repeat' first|(with_reducible refine hK' _ _ ?_;clear hK' K')|exact zY|with_reducible refine And.intro ?_ ?_|(with_reducible intro hpath;try exact zP)|(refine hK' _ _ ?_;clear hK' K')|fail);try refine zS ?_))|(refine zE ?_;refine hK _ _ ?_;clear hK K)|(refine zN ?_;try refine zS ?_)|refine zA ?_|(refine zB ?_;intro K hK)|(refine zC ?_ ?_<;>(try refine zH ?_)<;>intro hcond<;>try exact zX)|fail)
    all_goals
     refine ⟨i+1,A0r.headF 1 47 [1,2,7,18,19,20] (zc @e3 trivial) zW,?_,?_⟩
     ·exact hlt
     ·omega
   ·have ei:i=g.es.length:=by omega
    refine zR (zc @Int.ofNat_lt trivial) trivial trivial ?_
    simp [A0J,A0I,Blk.cells,ty,Try.results96,A05,A08,toT,A0e,A0c,A0d,A0a,A0j,ei,ha]
def iC (B:List Int):List ACell:=B.map fun x=>ACell.int .i64 x
theorem A0H (B:List Int):(iC B).length=B.length:=by simp [iC]
theorem A3k (B:List Int) (i:Nat) (x:Int):(iC B).set i (.int .i64 x)=iC (B.set i x):=by simp [iC,List.map_set]
theorem A1N (n:Nat):A7y [ACell.int .i64 0] n=iC (List.replicate n 0):=by simp [A7y,iC]
theorem B60 (B:List Int):(iC B).mapM A0a=some (B.map fun x=>Tree.int .i64 x):=by
 induction B with
 | nil=>rfl
 | cons x xs ih=>simp only [iC,List.map_cons,List.mapM_cons] at ih ⊢; rw [ih]; rfl
theorem B4F (B:List Int) (i:Nat) (r:List Tree) (m:Nat) (x:Tree) (h1:(A0q B)[i]? =some r) (h2:r[m]? =some x):(B.map fun x=>Tree.int .i64 x)[i*1+m]? =some x:=by
 simp only [A0q,List.getElem?_map] at h1
 cases hb:B[i]? with
 | none=>rw [hb] at h1; simp at h1
 | some b=>
  rw [hb] at h1
  simp at h1
  subst h1
  cases m with
  | zero=>simp at h2; simp [hb,h2]
  | succ m=>simp at h2
theorem A2j {B:List Int} {i:Nat} {x:Int} (h:B[i]? =some x):(iC B)[i]? =some (.int .i64 x):=by simp [iC,h]
theorem A0o {m:Nat} {B:List Int}:blkIn m (.box (iC B)):=by
 intro c hc
 obtain ⟨p,_,rfl⟩:=List.mem_map.1 hc
 exact True.intro
def A1w (ls:List (List Int)):List (List Tree):=ls.map fun l=>[Tree.slice (A0q l)]
def B2v (ls:List (List Int)):TVal:= .t (.slice (A1w ls))
attribute [go_sem] B2v
theorem A2a (ls:List (List Int)):(A1w ls).length=ls.length:=by simp [A1w]
theorem A4E {ls:List (List Int)} {i:Nat} {l:List Int} (h:ls[i]? =some l):(A1w ls)[i]? =some [Tree.slice (A0q l)]:=by simp [A1w,h]
theorem B9f (ls:List (List Int)):(ls.map A0q).map (fun r=>[Tree.slice r])=A1w ls:=by simp [A1w]
def chI (b:Nat) (ls:List (List Int)):List ACell:=chC b (ls.map A0q)
def chJ (ls:List (List Int)):List Blk:=chB (ls.map A0q)
theorem A28 (b:Nat) (ls:List (List Int)):(chI b ls).length=ls.length:=by simp [chI,B41]
theorem A9y (ls:List (List Int)):(chJ ls).length=ls.length:=by simp [chJ,B7X]
theorem B8d {b i:Nat} {ls:List (List Int)} {l:List Int} (h:ls[i]? =some l):(chI b ls)[i]? =some (.slice (A0q l) (.chain (i+b))):=B12 (by simp [h])
theorem B61 {b i:Nat} {ls:List (List Int)} {l:List Int} (h:ls[i]? =some l):(chI b ls).drop i= .slice (A0q l) (.chain (i+b))::(chI b ls).drop (i+1):=B6p (by simp [h])
theorem B8e (b i:Nat) (ls:List (List Int)) (l:List Int):(chI b ls).set i (.slice (A0q l) (.chain (i+b)))=chI b (ls.set i l):=by unfold chI; rw [B42,List.map_set]
theorem B8f {i:Nat} {ls:List (List Int)} {l:List Int} (h:ls[i]? =some l):(chJ ls)[i]? =some (.chain l.length 1):=by
 have:=B7Y (f:=ls.map A0q) (i:=i) (r:=A0q l) (by simp [h])
 rwa [A0l] at this
theorem B8g (i:Nat) (ls:List (List Int)) (l:List Int) {n:Nat} (hn:n=l.length):(chJ ls).set i (.chain n 1)=chJ (ls.set i l):=by
 unfold chJ; rw [B7Z _ i (A0q l) (by rw [A0l]; exact hn),List.map_set]
theorem A3X {m:Nat} {ls:List (List Int)}:A1u m (chJ ls):=B8Z
theorem A5D {ls:List (List Int)} {n:Nat} (h:ls.length≤n):(chJ ls).take n=chJ ls:=List.take_of_length_le (by rw [A9y]; exact h)
structure R where
 n:Int
 es:List E
 ar:List (List Int)
def R.g (r:R):G:=⟨r.n,r.es⟩
def atL (L:List (Int×Int)) (h:Nat):Int:=if h%2=0 then (L.getD (h / 2) (0,0)).1 else (L.getD (h / 2) (0,0)).2
def ownL (L:List (Int×Int)) (v:Int) (k:Nat):List Int:=((List.range k).filter fun h=>decide (atL L h=v)).map fun h:Nat=>(h:Int)
def A9z (L:List (Int×Int)) (n k:Nat):List (List Int):=(List.range n).map fun v:Nat=>ownL L (v:Int) k
theorem B18 (L:List (Int×Int)) (n k:Nat):(A9z L n k).length=n:=by simp [A9z]
structure LOk (l own:List Int):Prop where
 nd:l.Nodup
 sub: ∀x,x∈l→x∈own
 sup: ∀x,x∈own→x∈l
 len:l.length=own.length
 hd:l=[]∨l.getD 0 0=own.getD 0 0
@[simp] theorem B8K (L:List (Int×Int)) (n k:Nat):(chJ (A9z L n k)).take n=chJ (A9z L n k):=A5D (by rw [B18]; exact Nat.le_refl _)
theorem A7I (pre mid post new:List ACell) (h:new.length=mid.length):setMany (pre++mid++post) pre.length new=pre++new++post:=by
 apply List.ext_getElem?
 intro i
 rw [A3D _ _ _ _ (by simp; omega)]
 by_cases h1:i<pre.length
 ·rw [if_neg (by omega),List.append_assoc,List.append_assoc,List.getElem?_append_left h1,List.getElem?_append_left h1]
 ·by_cases h2:i<pre.length+new.length
  ·rw [if_pos ⟨by omega,h2⟩,List.append_assoc,List.getElem?_append_right (by omega),List.getElem?_append_left (by omega)]
  ·rw [if_neg (by omega),List.getElem?_append_right (by simp; omega),List.getElem?_append_right (l₁:=pre++new) (by simp; omega)]
   simp [h]
theorem A6n (l:List Int):flatRows (A0q l)=iC l:=by
 unfold flatRows A0q iC
 induction l with
 | nil=>rfl
 | cons x l ih=>simp only [List.map_cons,List.flatten_cons,List.map_append,ih]; rfl
theorem A5E (a b:List Int):iC (a++b)=iC a++iC b:=by simp [iC]
theorem B4G (n:Nat) (x:Int):iC (List.replicate n x)=List.replicate n (.int .i64 x):=by simp [iC]
theorem B9g (A l:List Int) (m:Nat):setMany (iC (A++List.replicate (l.length+m) 0)) A.length (iC l)=iC (A++l++List.replicate m 0):=by
 have e:List.replicate (l.length+m) (0:Int)=List.replicate l.length 0++List.replicate m 0:=List.replicate_append_replicate.symm
 rw [e,←List.append_assoc,A5E,A5E,A5E,A5E]
 have:=A7I (iC A) (iC (List.replicate l.length 0)) (iC (List.replicate m 0)) (iC l) (by simp [A0H])
 rwa [A0H] at this
end Go.Proofs.Ytdhfgihnoimoaaa
