/- A part of the proof. -/
import Derived.Test.YtdhfgihnoimoaaaPart04
import Derived.Test.YtdhfgihnoimoaaaPart06
import Derived.Test.YtdhfgihnoimoaaaLayerC
import Derived.Test.YtdhfgihnoimoaaaPart03
set_option linter.all false
set_option maxHeartbeats 4000000
set_option maxRecDepth 100000
namespace Go.Proofs.Ytdhfgihnoimoaaa
open Go.Sp
def A0p (l:List Int):List (List Tree):=l.map fun x=>[.int .i64 x]
def A0m (l:List Int):TVal:= .t (.slice (A0p l))
attribute [go_sem] A0m
theorem A0f (l:List Int):(A0p l).length=l.length:=by simp [A0p]
theorem A0P {l:List Int} {i:Nat} {x:Int} (h:l[i]? =some x):(A0p l)[i]? =some [.int .i64 x]:=by simp [A0p,h]
theorem A1w {l:List Int} {r:List Tree} (h:r∈A0p l):r.length=1:=by
 obtain ⟨x,_,rfl⟩:=List.mem_map.1 h; rfl
theorem A1G (l:List Int) (a:Int):A0p l++[[.int .i64 a]]=A0p (l++[a]):=by simp [A0p]
theorem A4E (l m:List Int) (hl:l.length<2^40) (hm:m.length<2^40):ACall Try.prog 13 [A0m l,A0m m] (A09 (decide (l=m))):=by
 refine ACall.of_body Try.func13 rfl (by kernel_rfl) ?_
 simp only [entry,Try.ntmps13,A0m]
 refine zU ?_
 repeat' (first|((first|(refine zT ?_;intro K' hK')|(refine zG ?_ ?_<;>(try refine zH ?_)<;>intro hguard<;>(try exact zX)<;>try intro K' hK'))<;>((try simp+contextual only [go_sem,A0f]);(repeat' first|(with_reducible refine hK' _ _ ?_;clear hK' K')|exact zY|with_reducible refine And.intro ?_ ?_|(with_reducible intro hpath;try exact zP)|(refine hK' _ _ ?_;clear hK' K')|fail);try refine zS ?_))|(refine zE ?_;refine hK _ _ ?_;clear hK K)|(refine zN ?_;try refine zS ?_)|refine zA ?_|(refine zB ?_;intro K hK)|(refine zC ?_ ?_<;>(try refine zH ?_)<;>intro hcond<;>try exact zX)|fail)
 ·have e: ¬l=m:=fun e=>by subst e; omega
  simp [A0E,A0C,Blk.cells,ty,Try.results13,A0y,A05,toT,A0e,A0c,A0d,A0a,A09,e]
 ·have hlm:l.length=m.length:=by omega
  refine AWp.loopS (α:=Nat) 26 (fun k=>[(0,.c (.slice (A0p l) .none)),(1,.c (.slice (A0p m) .none)),(12,.c (.int .i64 l.length)),(13,.c (.int .i64 (k:Int)))]) (fun k=>[]) (fun k=>k≤l.length∧ ∀j,j<k→l[j]? =m[j]?) (fun k=>l.length-k) (0) (hk:=A0s.headL 0 26 [0,1,12,13] zW) (h0:=?_) (round:=fun k hI=>?_)
  ·exact ⟨Nat.zero_le _,fun j hj=>by omega⟩
  ·obtain ⟨hk,hx⟩:=hI
   by_cases hlt:k<l.length
   ·have hlt2:k<m.length:=by omega
    have e1:=A0P (List.getElem?_eq_getElem hlt)
    have e2:=A0P (List.getElem?_eq_getElem hlt2)
    repeat' (first|((first|(refine zT ?_;intro K' hK')|(refine zG ?_ ?_<;>(try refine zH ?_)<;>intro hguard<;>(try exact zX)<;>try intro K' hK'))<;>((try simp+contextual only [go_sem,e1,e2,Int.toNat_natCast,Int.ofNat_lt]);(repeat' first|(with_reducible refine hK' _ _ ?_;clear hK' K')|exact zY|with_reducible refine And.intro ?_ ?_|(with_reducible intro hpath;try exact zP)|(refine hK' _ _ ?_;clear hK' K')|fail);try refine zS ?_))|(refine zE ?_;refine hK _ _ ?_;clear hK K)|(refine zN ?_;try refine zS ?_)|refine zA ?_|(refine zB ?_;intro K hK)|(refine zC ?_ ?_<;>(try refine zH ?_)<;>intro hcond<;>try exact zX)|fail)
    ·have e: ¬l=m:=fun e=>by subst e; omega
     simp [A0E,A0C,Blk.cells,ty,Try.results13,A0y,A05,toT,A0e,A0c,A0d,A0a,A09,e]
    ·refine ⟨k+1,A0s.headN 0 26 [0,1,12,13] zW,?_,?_⟩
     ·refine ⟨hlt,fun j hj=> ?_⟩
      by_cases hjk:j=k
      ·subst hjk; rw [List.getElem?_eq_getElem hlt,List.getElem?_eq_getElem hlt2]; congr 1
      ·exact hx j (by omega)
     ·omega
   ·have e:l=m:=List.ext_getElem? fun j=>by
     by_cases hj:j<l.length
     ·exact hx j (by omega)
     ·rw [List.getElem?_eq_none (by omega),List.getElem?_eq_none (by omega)]
    refine zR (zc @Int.ofNat_lt trivial) trivial trivial ?_
    simp [A0E,A0C,Blk.cells,ty,Try.results13,A0y,A05,toT,A0e,A0c,A0d,A0a,A09,e]
def iC (B:List Int):List ACell:=B.map fun x=>ACell.int .i64 x
theorem A0F (B:List Int):(iC B).length=B.length:=by simp [iC]
theorem A2z (B:List Int) (i:Nat) (x:Int):(iC B).set i (.int .i64 x)=iC (B.set i x):=by simp [iC,List.map_set]
theorem A1R (n:Nat):A7z [ACell.int .i64 0] n=iC (List.replicate n 0):=by simp [A7z,iC]
theorem B6z (B:List Int):(iC B).mapM A0a=some (B.map fun x=>Tree.int .i64 x):=by
 induction B with
 | nil=>rfl
 | cons x xs ih=>simp only [iC,List.map_cons,List.mapM_cons] at ih ⊢; rw [ih]; rfl
theorem B4J (B:List Int) (i:Nat) (r:List Tree) (m:Nat) (x:Tree) (h1:(A0p B)[i]? =some r) (h2:r[m]? =some x):(B.map fun x=>Tree.int .i64 x)[i*1+m]? =some x:=by
 simp only [A0p,List.getElem?_map] at h1
 cases hb:B[i]? with
 | none=>rw [hb] at h1; simp at h1
 | some b=>
  rw [hb] at h1
  simp at h1
  subst h1
  cases m with
  | zero=>simp at h2; simp [hb,h2]
  | succ m=>simp at h2
theorem A1J {B:List Int} {i:Nat} {x:Int} (h:B[i]? =some x):(iC B)[i]? =some (.int .i64 x):=by simp [iC,h]
theorem A0o {m:Nat} {B:List Int}:blkIn m (.box (iC B)):=by
 intro c hc
 obtain ⟨p,_,rfl⟩:=List.mem_map.1 hc
 exact True.intro
def A1c (ls:List (List Int)):List (List Tree):=ls.map fun l=>[Tree.slice (A0p l)]
def B23 (ls:List (List Int)):TVal:= .t (.slice (A1c ls))
attribute [go_sem] B23
theorem A1l (ls:List (List Int)):(A1c ls).length=ls.length:=by simp [A1c]
theorem A2F {ls:List (List Int)} {i:Nat} {l:List Int} (h:ls[i]? =some l):(A1c ls)[i]? =some [Tree.slice (A0p l)]:=by simp [A1c,h]
theorem B4K {ls:List (List Int)} {r:List Tree} (h:r∈A1c ls):r.length=1:=by
 obtain ⟨x,_,rfl⟩:=List.mem_map.1 h; rfl
theorem B1A (ls:List (List Int)) (a:List Int):A1c ls++[[Tree.slice (A0p a)]]=A1c (ls++[a]):=by simp [A1c]
theorem B8W (ls:List (List Int)):(ls.map A0p).map (fun r=>[Tree.slice r])=A1c ls:=by simp [A1c]
def chI (b:Nat) (ls:List (List Int)):List ACell:=chC b (ls.map A0p)
def chJ (ls:List (List Int)):List Blk:=chB (ls.map A0p)
theorem A27 (b:Nat) (ls:List (List Int)):(chI b ls).length=ls.length:=by simp [chI,B46]
theorem A9r (ls:List (List Int)):(chJ ls).length=ls.length:=by simp [chJ,B7U]
theorem B8a {b i:Nat} {ls:List (List Int)} {l:List Int} (h:ls[i]? =some l):(chI b ls)[i]? =some (.slice (A0p l) (.chain (i+b))):=B15 (by simp [h])
theorem B60 {b i:Nat} {ls:List (List Int)} {l:List Int} (h:ls[i]? =some l):(chI b ls).drop i= .slice (A0p l) (.chain (i+b))::(chI b ls).drop (i+1):=B6n (by simp [h])
theorem B8b (b i:Nat) (ls:List (List Int)) (l:List Int):(chI b ls).set i (.slice (A0p l) (.chain (i+b)))=chI b (ls.set i l):=by unfold chI; rw [B47,List.map_set]
theorem B8c {i:Nat} {ls:List (List Int)} {l:List Int} (h:ls[i]? =some l):(chJ ls)[i]? =some (.chain l.length 1):=by
 have:=B7V (f:=ls.map A0p) (i:=i) (r:=A0p l) (by simp [h])
 rwa [A0f] at this
theorem B8d (i:Nat) (ls:List (List Int)) (l:List Int) {n:Nat} (hn:n=l.length):(chJ ls).set i (.chain n 1)=chJ (ls.set i l):=by
 unfold chJ; rw [B7W _ i (A0p l) (by rw [A0f]; exact hn),List.map_set]
theorem A4b {m:Nat} {ls:List (List Int)}:A1x m (chJ ls):=B8Q
theorem A5F {ls:List (List Int)} {n:Nat} (h:ls.length≤n):(chJ ls).take n=chJ ls:=List.take_of_length_le (by rw [A9r]; exact h)
structure R where
 n:Int
 es:List E
 ar:List (List Int)
def R.g (r:R):G:=⟨r.n,r.es⟩
def atL (L:List (Int×Int)) (h:Nat):Int:=if h%2=0 then (L.getD (h / 2) (0,0)).1 else (L.getD (h / 2) (0,0)).2
def ownL (L:List (Int×Int)) (v:Int) (k:Nat):List Int:=((List.range k).filter fun h=>decide (atL L h=v)).map fun h:Nat=>(h:Int)
def A9s (L:List (Int×Int)) (n k:Nat):List (List Int):=(List.range n).map fun v:Nat=>ownL L (v:Int) k
theorem B1B (L:List (Int×Int)) (n k:Nat):(A9s L n k).length=n:=by simp [A9s]
structure LOk (l own:List Int):Prop where
 nd:l.Nodup
 sub: ∀x,x∈l→x∈own
 sup: ∀x,x∈own→x∈l
 len:l.length=own.length
 hd:l=[]∨l.getD 0 0=own.getD 0 0
@[simp] theorem B8D (L:List (Int×Int)) (n k:Nat):(chJ (A9s L n k)).take n=chJ (A9s L n k):=A5F (by rw [B1B]; exact Nat.le_refl _)
theorem A7K (pre mid post new:List ACell) (h:new.length=mid.length):setMany (pre++mid++post) pre.length new=pre++new++post:=by
 apply List.ext_getElem?
 intro i
 rw [A3E _ _ _ _ (by simp; omega)]
 by_cases h1:i<pre.length
 ·rw [if_neg (by omega),List.append_assoc,List.append_assoc,List.getElem?_append_left h1,List.getElem?_append_left h1]
 ·by_cases h2:i<pre.length+new.length
  ·rw [if_pos ⟨by omega,h2⟩,List.append_assoc,List.getElem?_append_right (by omega),List.getElem?_append_left (by omega)]
  ·rw [if_neg (by omega),List.getElem?_append_right (by simp; omega),List.getElem?_append_right (l₁:=pre++new) (by simp; omega)]
   simp [h]
theorem A35 (l:List Int):flatRows (A0p l)=iC l:=by
 unfold flatRows A0p iC
 induction l with
 | nil=>rfl
 | cons x l ih=>simp only [List.map_cons,List.flatten_cons,List.map_append,ih]; rfl
theorem A5G (a b:List Int):iC (a++b)=iC a++iC b:=by simp [iC]
theorem B4L (n:Nat) (x:Int):iC (List.replicate n x)=List.replicate n (.int .i64 x):=by simp [iC]
theorem B8X (A l:List Int) (m:Nat):setMany (iC (A++List.replicate (l.length+m) 0)) A.length (iC l)=iC (A++l++List.replicate m 0):=by
 have e:List.replicate (l.length+m) (0:Int)=List.replicate l.length 0++List.replicate m 0:=List.replicate_append_replicate.symm
 rw [e,←List.append_assoc,A5G,A5G,A5G,A5G]
 have:=A7K (iC A) (iC (List.replicate l.length 0)) (iC (List.replicate m 0)) (iC l) (by simp [A0F])
 rwa [A0F] at this
def B61 (l:List Int):Nat→List Int
 | 0=>l
 | i+1=>((B61 l i).set i ((B61 l i)[l.length-1-i]?.getD 0)).set (l.length-1-i) ((B61 l i)[i]?.getD 0)
@[simp] theorem B8E (l:List Int):B61 l 0=l:=rfl
theorem A5H {m:Nat} {pre:List Blk} {B:List Int} (hpre: ∀b,b∈pre→blkIn (pre.length+1) b) (hm:m=pre.length+1:=by rfl):A1x m (pre++[.box (iC B)]):=by
 subst hm
 intro b hb
 rcases List.mem_append.1 hb with hb | hb
 ·exact hpre b hb
 ·obtain rfl:=List.mem_singleton.1 hb
  exact A0o
@[simp] theorem B93 (pre:List Blk) (X:Blk):(pre++[X]).take (pre.length+1)=pre++[X]:=List.take_of_length_le (by simp)
end Go.Proofs.Ytdhfgihnoimoaaa
