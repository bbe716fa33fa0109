/- A part of the proof. -/
import Derived.Test.YtdhfgihnoimoaaaPart10
import Derived.Test.YtdhfgihnoimoaaaLayerC
import Derived.Test.YtdhfgihnoimoaaaPart06
import Derived.Test.YtdhfgihnoimoaaaPart08
set_option linter.all false
set_option maxHeartbeats 4000000
set_option maxRecDepth 100000
namespace Go.Proofs.Ytdhfgihnoimoaaa
open Go.Sp
theorem A7O (g:G) (a b:Int) (hl:g.es.length<2^40):ACall Try.prog 114 [tG g,A0g a,A0g b] (A0g (A6U g.es (min a b) (max a b))):=by
 refine ACall.of_body Try.func114 rfl (by kernel_rfl) ?_
 simp only [entry,Try.ntmps114,tG,A0g]
 refine zU ?_
 refine zR trivial trivial trivial ?_
 refine AWp.loopS (α:=Nat) 37 (fun i=>[(1,.c (.int .i64 a)),(2,.c (.int .i64 b)),(3,.c (.ptr 0 0)),(7,.c (.int .i64 (i:Int)))]) (fun i=>[.box [.int .i64 g.n,.slice (A0b g.es) .none]]) (fun i=>i≤g.es.length∧A6U g.es (min a b) (max a b)=A6U (g.es.drop i) (min a b) (max a b)) (fun i=>g.es.length-i) (0) (hk:=A0s.headL 1 37 [1,2,3,7] zW) (h0:=?_) (round:=fun i hI=>?_)
 ·exact ⟨Nat.zero_le _,rfl⟩
 ·obtain ⟨hi,hx⟩:=hI
  by_cases hlt:i<g.es.length
  ·have e1:=A2l (List.getElem?_eq_getElem hlt)
   rw [List.drop_eq_getElem_cons hlt,A6U] at hx
   generalize hy:g.es[i]=x at*
   repeat' (first|((first|(refine zT ?_;intro K' hK')|(refine zG ?_ ?_<;>(try refine zH ?_)<;>intro hguard<;>(try exact zX)<;>try intro K' hK'))<;>((try simp+contextual only [go_sem,e1,A06,Int.toNat_natCast,Int.ofNat_lt]);(repeat' first|(with_reducible refine hK' _ _ ?_;clear hK' K')|exact zY|with_reducible refine And.intro ?_ ?_|(with_reducible intro hpath;try exact zP)|(refine hK' _ _ ?_;clear hK' K')|fail);try refine zS ?_))|(refine zE ?_;refine hK _ _ ?_;clear hK K)|(refine zN ?_;try refine zS ?_)|refine zA ?_|(refine zB ?_;intro K hK)|(refine zC ?_ ?_<;>(try refine zH ?_)<;>intro hcond<;>try exact zX)|fail)
   ·rw [if_pos ⟨by omega,by omega⟩] at hx
    simp [A0E,A0C,Blk.cells,ty,Try.results114,A0y,A05,toT,A0e,A0c,A0d,A0a,A0g,hx]
   all_goals
    rw [if_neg (by omega)] at hx
    refine ⟨i+1,A0s.headN 1 37 [1,2,3,7] zW,?_,?_⟩
    ·exact ⟨hlt,hx⟩
    ·omega
  ·have ei:i=g.es.length:=by omega
   have h0:A6U g.es (min a b) (max a b)=0:=by rw [hx,ei,List.drop_length,A6U]
   refine zR (zc @A06 (zc @Int.ofNat_lt trivial)) trivial trivial ?_
   simp [A0E,A0C,Blk.cells,ty,Try.results114,A0y,A05,toT,A0e,A0c,A0d,A0a,A0g,h0]
theorem B67 {es:List E} (hm: ∀e,e∈es→1≤e.m) {a b:Int}:0<A6U es a b↔ ∃e,e∈es∧e.a=a∧e.b=b:=by
 induction es with
 | nil=>simp [A6U]
 | cons x xs ih=>
  have ih:=ih fun e he=>hm e (by simp [he])
  simp only [A6U]
  split
  ·rename_i h
   exact ⟨fun _=>⟨x,by simp,h.1,h.2⟩,fun _=>by have:=hm x (by simp); omega⟩
  ·rename_i h
   rw [ih]
   constructor
   ·rintro ⟨e,he,h1,h2⟩; exact ⟨e,by simp [he],h1,h2⟩
   ·rintro ⟨e,he,h1,h2⟩
    rcases List.mem_cons.1 he with rfl | he
    ·exact absurd ⟨h1,h2⟩ h
    ·exact ⟨e,he,h1,h2⟩
def bC (R:List Bool):List ACell:=R.map ACell.bool
def A1m (R:List Bool):List (List Tree):=R.map fun b=>[Tree.bool b]
def A37 (R:List Bool):TVal:= .t (.slice (A1m R))
attribute [go_sem] A37
theorem A1z (R:List Bool):(bC R).length=R.length:=by simp [bC]
theorem A0V (R:List Bool):(A1m R).length=R.length:=by simp [A1m]
theorem A6G {R:List Bool} {i:Nat} {b:Bool} (h:R[i]? =some b):(bC R)[i]? =some (.bool b):=by simp [bC,h]
theorem A4z {R:List Bool} {i:Nat} {b:Bool} (h:R[i]? =some b):(A1m R)[i]? =some [.bool b]:=by simp [A1m,h]
theorem A4W (R:List Bool) (i:Nat) (b:Bool):(bC R).set i (.bool b)=bC (R.set i b):=by simp [bC,List.map_set]
theorem B1D {R:List Bool} {i:Nat} {b:Bool} (h:R[i]? =some b):(bC R).drop i= .bool b::(bC R).drop (i+1):=by
 have hl:=(List.getElem?_eq_some_iff.1 h)
 rw [List.drop_eq_getElem_cons (by rw [A1z]; exact hl.1)]
 obtain ⟨h1,rfl⟩:=hl
 simp [bC]
theorem A2J (n:Nat):A7z [ACell.bool false] n=bC (List.replicate n false):=by
 simp [A7z,bC]
def B4g (es:List E) (a b:Nat):Bool:=decide (0<A6U es (min (a:Int) b) (max (a:Int) b))
def A38 (es:List E) (a:Nat) (R:List Bool) (b:Nat):List Bool:=if R.getD a false&&B4g es a b then R.set b true else R
def rRow (es:List E) (n a:Nat) (R:List Bool):List Bool:=(List.range n).foldl (A38 es a) R
def A6H (es:List E) (n:Nat) (R:List Bool):List Bool:=(List.range n).foldl (fun R a=>rRow es n a R) R
def A10 (es:List E) (n v k:Nat):List Bool:=(List.range k).foldl (fun R _=>A6H es n R) ((List.replicate n false).set v true)
def A7P (es:List E) (n v:Nat):List Bool:=A10 es n v n
theorem A1a {α:Type} (f:α→Nat→α) (z:α) (k:Nat):(List.range (k+1)).foldl f z=f ((List.range k).foldl f z) k:=by rw [List.range_succ,List.foldl_append]; rfl
theorem A3c {f:List Bool→Nat→List Bool} (h: ∀R i,(f R i).length=R.length) (l:List Nat) (R:List Bool):(l.foldl f R).length=R.length:=by
 induction l generalizing R with
 | nil=>rfl
 | cons x xs ih=>rw [List.foldl_cons,ih,h]
theorem A5J (es:List E) (a:Nat) (R:List Bool) (b:Nat):(A38 es a R b).length=R.length:=by unfold A38; split<;>simp
theorem B26 (es:List E) (n a:Nat) (R:List Bool):(rRow es n a R).length=R.length:=A3c (A5J es a) _ _
theorem B31 (es:List E) (n:Nat) (R:List Bool):(A6H es n R).length=R.length:=A3c (fun R a=>B26 es n a R) _ _
theorem A4F (es:List E) (n v k:Nat):(A10 es n v k).length=n:=by
 unfold A10; rw [A3c (fun R _=>B31 es n R)]; simp
theorem B4Q {es:List E} {a:Nat} {R:List Bool} {b:Nat} {x:Bool} (h:R[a]? =some x):A38 es a R b=if x=true∧0<A6U es (min (a:Int) b) (max (a:Int) b) then R.set b true else R:=by
 unfold A38 B4g
 rw [List.getD_eq_getElem?_getD,h,Option.getD_some]
 cases x<;>simp
theorem A7d {R:List Bool} {n a:Nat} (h:R.length=n) (ha:a<n): ∃x,R[a]? =some x:=⟨_,List.getElem?_eq_getElem (by omega)⟩
theorem B78 {R:List Bool} {n:Nat} (h:R.length=n) {H:List Blk} {id:Nat} (hid:H[id]? =some (.box (bC R))):A0e H (.ref id 1 0 n n)=some (.slice (A1m R)):=by
 have e:A0e H (.ref id 1 0 n n)=A0c H (.ref id 1 0 n n):=rfl
 have hf:=A6B (rows:=A1m R) (k:=1) (cap:=n) (fun r hr=>by obtain ⟨b,_,rfl⟩:=List.mem_map.1 hr; rfl) (fun r hr=>by obtain ⟨b,_,rfl⟩:=List.mem_map.1 hr; rfl) (by rw [A0V]; omega)
 have hfl:flatRows (A1m R)=bC R:=by
  simp only [flatRows,A1m,bC]
  clear e hf hid h
  induction R with
  | nil=>rfl
  | cons x xs ih=>simp only [List.map_cons,List.flatten_cons,List.map_append,ih]; rfl
 rw [hfl,A0V,h] at hf
 unfold A5g at hf
 rw [e]
 simp only [A0c,hid,Blk.cells,Option.bind_some]
 split at hf
 ·rename_i hc
  rw [if_pos hc]
  cases hm:(((bC R).drop 0).take (n*1)).mapM A0a with
  | none=>rw [hm] at hf; simp at hf
  | some ts=>
   rw [hm] at hf
   simp only [Option.bind_some] at hf
   split at hf
   ·simp at hf; simp [hf]
   ·simp at hf
 ·simp at hf
theorem B32 (g:G) (n v:Nat) (hc:checkG g=0) (hn:g.n=n) (hv:v<n) (hl:g.es.length<2^30):ACall Try.prog 103 [tG g,A0g v] (A37 (A7P g.es n v)):=by
 have hn12:=(A02.1 hc).1
 have hbe: ∀a b:Nat,ACall Try.prog 114 [tG g,A0g a,A0g b] (A0g (A6U g.es (min (a:Int) b) (max (a:Int) b))):=fun a b=>A7O g a b (by omega)
 obtain ⟨gn,es⟩:=g
 simp only at hn hl hn12 hbe ⊢
 subst hn
 refine ACall.of_body Try.func103 rfl (by kernel_rfl) ?_
 simp only [entry,Try.ntmps103,tG,A0g]
 refine zU ?_
 repeat' (first|((first|(refine zT ?_;intro K' hK')|(refine zG ?_ ?_<;>(try refine zH ?_)<;>intro hguard<;>(try exact zX)<;>try intro K' hK'))<;>((try simp+contextual only [go_sem,A2J,Int.toNat_natCast,Nat.mul_one,A4W,A1z,List.length_replicate]);(repeat' first|(with_reducible refine hK' _ _ ?_;clear hK' K')|exact zY|with_reducible refine And.intro ?_ ?_|(with_reducible intro hpath;try exact zP)|(refine hK' _ _ ?_;clear hK' K')|fail);try refine zS ?_))|(refine zE ?_;refine hK _ _ ?_;clear hK K)|(refine zN ?_;try refine zS ?_)|refine zA ?_|(refine zB ?_;intro K hK)|(refine zC ?_ ?_<;>(try refine zH ?_)<;>intro hcond<;>try exact zX)|fail)
 refine AWp.loopS (α:=Nat) 48 (fun k=>[(1,.c (.int .i64 (v:Int))),(2,.c (.ptr 0 0)),(5,.c (.ref 1 1 0 n n)),(6,.c (.int .i64 (k:Int)))]) (fun k=>[.box [.int .i64 (n:Int),.slice (A0b es) .none],.box (bC (A10 es n v k))]) (fun k=>k≤n) (fun k=>n-k) (0) (hk:=A0s.headL 2 48 [1,2,5,6] zW) (h0:=?_) (round:=fun k hI=>?_)
 ·exact Nat.zero_le _
 ·have hk:k≤n:=hI
  clear hI
  by_cases hlt:k<n
  ·have hltI:(k:Int)<n:=by omega
   have hN:A10 es n v (k+1)=A6H es n (A10 es n v k):=A1a _ _ _
   have hlen:=A4F es n v k
   generalize A10 es n v k=R at*
   refine zR (zc @hltI trivial) trivial trivial ?_
   refine AWp.loopS (α:=Nat) 48 (fun a=>[(1,.c (.int .i64 (v:Int))),(2,.c (.ptr 0 0)),(5,.c (.ref 1 1 0 n n)),(6,.c (.int .i64 (k:Int))),(7,.c (.int .i64 (a:Int)))]) (fun a=>[.box [.int .i64 (n:Int),.slice (A0b es) .none],.box (bC ((List.range a).foldl (fun R a=>rRow es n a R) R))]) (fun a=>a≤n) (fun a=>n-a) (0) (hk:=A0s.headL 2 48 [1,2,5,6,7] zW) (h0:=?_) (round:=fun a hI=>?_)
   ·exact Nat.zero_le _
   ·have ha:a≤n:=hI
    clear hI
    by_cases hlta:a<n
    ·have hltaI:(a:Int)<n:=by omega
     have hA:(List.range (a+1)).foldl (fun R a=>rRow es n a R) R=rRow es n a ((List.range a).foldl (fun R a=>rRow es n a R) R):=A1a _ _ _
     have hlen2:((List.range a).foldl (fun R a=>rRow es n a R) R).length=n:=by rw [A3c (fun R a=>B26 es n a R),hlen]
     generalize (List.range a).foldl (fun R a=>rRow es n a R) R=S at*
     refine zR (zc @hltaI trivial) trivial trivial ?_
     refine AWp.loopS (α:=Nat) 48 (fun b=>[(1,.c (.int .i64 (v:Int))),(2,.c (.ptr 0 0)),(5,.c (.ref 1 1 0 n n)),(6,.c (.int .i64 (k:Int))),(7,.c (.int .i64 (a:Int))),(8,.c (.int .i64 (b:Int)))]) (fun b=>[.box [.int .i64 (n:Int),.slice (A0b es) .none],.box (bC ((List.range b).foldl (A38 es a) S))]) (fun b=>b≤n) (fun b=>n-b) (0) (hk:=A0s.headL 2 48 [1,2,5,6,7,8] zW) (h0:=?_) (round:=fun b hI=>?_)
     ·exact Nat.zero_le _
     ·have hb:b≤n:=hI
      clear hI
      by_cases hltb:b<n
      ·have hltbI:(b:Int)<n:=by omega
       have hB:(List.range (b+1)).foldl (A38 es a) S=A38 es a ((List.range b).foldl (A38 es a) S) b:=A1a _ _ _
       have hlen3:((List.range b).foldl (A38 es a) S).length=n:=by rw [A3c (A5J es a),hlen2]
       generalize (List.range b).foldl (A38 es a) S=T at*
       obtain ⟨x,hx⟩:=A7d hlen3 hlta
       have hd:=B1D hx
       have hst:=B4Q (es:=es) (b:=b) hx
       have hbb:=hbe a b
       have hg:=A6G hx
       generalize A6U es (min (a:Int) b) (max (a:Int) b)=c at*
       cases x with
       | true=>
        by_cases hcp:0<c
        ·rw [if_pos ⟨rfl,hcp⟩] at hst
         rw [hst] at hB
         refine zR (zc @hltbI (zc @hd (zc @hg (zc @hcp (zc @A1z (zc @hlen3 (zc @A4W trivial))))))) (zc hbb trivial) trivial ?_
         refine ⟨b+1,A0s.headF 2 48 [1,2,5,6,7,8] (zc @hB trivial) zW,?_,?_⟩
         ·exact hltb
         ·omega
        ·rw [if_neg (by simp [hcp])] at hst
         rw [hst] at hB
         refine zR (zc @hltbI (zc @hd (zc @hg (zc @hcp (zc @A1z (zc @hlen3 trivial)))))) (zc hbb trivial) trivial ?_
         refine ⟨b+1,A0s.headF 2 48 [1,2,5,6,7,8] (zc @hB trivial) zW,?_,?_⟩
         ·exact hltb
         ·omega
       | false=>
        rw [if_neg (by simp)] at hst
        rw [hst] at hB
        refine zR (zc @hltbI (zc @hd (zc @hg (zc @A1z (zc @hlen3 trivial))))) trivial trivial ?_
        refine ⟨b+1,A0s.headF 2 48 [1,2,5,6,7,8] (zc @hB trivial) zW,?_,?_⟩
        ·exact hltb
        ·omega
      ·have eb:b=n:=by omega
       subst eb
       have hnl: ¬((b:Int)<b):=by omega
       have hA':(List.range (a+1)).foldl (fun R a=>rRow es b a R) R=(List.range b).foldl (A38 es a) S:=hA
       refine zR (zc @hnl trivial) trivial trivial ?_
       refine ⟨a+1,A0s.headF 2 48 [1,2,5,6,7] (zc @hA' trivial) zW,?_,?_⟩
       ·exact hlta
       ·omega
    ·have ea:a=n:=by omega
     subst ea
     have hnl: ¬((a:Int)<a):=by omega
     have hN':A10 es a v (k+1)=(List.range a).foldl (fun R b=>rRow es a b R) R:=hN
     refine zR (zc @hnl trivial) trivial trivial ?_
     refine ⟨k+1,A0s.headF 2 48 [1,2,5,6] (zc @hN' trivial) zW,?_,?_⟩
     ·exact hlt
     ·omega
  ·have ek:k=n:=by omega
   subst ek
   have hnl: ¬((k:Int)<k):=by omega
   have hlen:=A4F es k v k
   refine zR (zc @hnl trivial) trivial trivial ?_
   have hR:=B78 hlen (H:=[Blk.box [.int .i64 (k:Int),.slice (A0b es) .none],Blk.box (bC (A10 es k v k))]) (id:=1) rfl
   simp [A0E,A0C,Try.results103,A0y,A05,toT,A37,A7P,hR]
def A7Q (R S:List Bool) (u:Nat):List Bool:=S.set u (S.getD u false||R.getD u false)
def orK (R S:List Bool) (k:Nat):List Bool:=(List.range k).foldl (A7Q R) S
theorem A8D (R S:List Bool) (u:Nat):(A7Q R S u).length=S.length:=by simp [A7Q]
theorem B4R (R S:List Bool) (k:Nat):(orK R S k).length=S.length:=A3c (A8D R) _ _
def seenStep (es:List E) (n:Nat) (S:List Bool) (v:Nat):List Bool:=if S.getD v false then S else orK (A7P es n v) S n
def A5K (es:List E) (n v:Nat):List Bool:=(List.range v).foldl (seenStep es n) (List.replicate n false)
theorem B02 (es:List E) (n v:Nat):(A5K es n v).length=n:=by
 unfold A5K
 rw [A3c (fun S v=>by unfold seenStep; split<;>simp [B4R])]; simp
def A2m (es:List E) (n:Nat):Nat→Nat
 | 0=>0
 | v+1=>if (A5K es n v).getD v false then A2m es n v else A2m es n v+1
theorem B4S (es:List E) (n v:Nat):A2m es n v≤v:=by
 induction v with
 | zero=>exact Nat.le_refl _
 | succ v ih=>simp only [A2m]; split<;>omega
theorem B1E {R:List Bool} {i:Nat} {x:Bool} (h:R[i]? =some x):R.getD i false=x:=by rw [List.getD_eq_getElem?_getD,h]; rfl
theorem B68 (g:G) (n:Nat) (hc:checkG g=0) (hn:g.n=n) (hl:g.es.length<2^30):ACall Try.prog 81 [tG g] (A0g (A2m g.es n n)):=by
 have hn12:=(A02.1 hc).1
 have hre: ∀v:Nat,v<n→ACall Try.prog 103 [tG g,A0g v] (A37 (A7P g.es n v)):=fun v hv=>B32 g n v hc hn hv hl
 obtain ⟨gn,es⟩:=g
 simp only at hn hl hn12 hre ⊢
 subst hn
 refine ACall.of_body Try.func81 rfl (by kernel_rfl) ?_
 simp only [entry,Try.ntmps81,tG]
 refine zU ?_
 repeat' (first|((first|(refine zT ?_;intro K' hK')|(refine zG ?_ ?_<;>(try refine zH ?_)<;>intro hguard<;>(try exact zX)<;>try intro K' hK'))<;>((try simp+contextual only [go_sem,A2J,Int.toNat_natCast,Nat.mul_one,A4W,A1z,List.length_replicate]);(repeat' first|(with_reducible refine hK' _ _ ?_;clear hK' K')|exact zY|with_reducible refine And.intro ?_ ?_|(with_reducible intro hpath;try exact zP)|(refine hK' _ _ ?_;clear hK' K')|fail);try refine zS ?_))|(refine zE ?_;refine hK _ _ ?_;clear hK K)|(refine zN ?_;try refine zS ?_)|refine zA ?_|(refine zB ?_;intro K hK)|(refine zC ?_ ?_<;>(try refine zH ?_)<;>intro hcond<;>try exact zX)|fail)
 refine AWp.loopS (α:=Nat) 46 (fun v=>[(1,.c (.ptr 0 0)),(2,.c (.int .i64 0)),(3,.c (.int .i64 (A2m es n v))),(4,.c (.ref 1 1 0 n n)),(5,.c (.int .i64 (v:Int)))]) (fun v=>[.box [.int .i64 (n:Int),.slice (A0b es) .none],.box (bC (A5K es n v))]) (fun v=>v≤n) (fun v=>n-v) (0) (hk:=A0s.headL 2 46 [1,2,3,4,5] zW) (h0:=?_) (round:=fun v hI=>?_)
 ·exact Nat.zero_le _
 ·have hv:v≤n:=hI
  clear hI
  have hlen:=B02 es n v
  have hpl:=B4S es n v
  by_cases hlt:v<n
  ·have hltI:(v:Int)<n:=by omega
   have hS1:A5K es n (v+1)=seenStep es n (A5K es n v) v:=A1a _ _ _
   have hP1:A2m es n (v+1)=if (A5K es n v).getD v false then A2m es n v else A2m es n v+1:=rfl
   have hrv:=hre v hlt
   have hrl:=A4F es n v n
   generalize A2m es n v=p at*
   generalize A5K es n v=S at*
   obtain ⟨x,hx⟩:=A7d hlen hlt
   unfold seenStep at hS1
   rw [B1E hx] at hS1 hP1
   have hd:=B1D hx
   have hg:=A6G hx
   cases x with
   | true=>
    rw [if_pos rfl] at hS1 hP1
    refine zR (zc @hltI (zc @hd (zc @hg (zc @A1z (zc @hlen trivial))))) trivial trivial ?_
    refine ⟨v+1,A0s.headF 2 46 [1,2,3,4,5] (zc @hS1 (zc @hP1 trivial)) zW,?_,?_⟩
    ·exact hlt
    ·omega
   | false=>
    rw [if_neg (by simp)] at hS1 hP1
    change (A7P es n v).length=n at hrl
    generalize A7P es n v=R at*
    refine zR (zc @hltI (zc @hd (zc @hg (zc @A1z (zc @hlen trivial))))) (zc hrv trivial) trivial ?_
    refine AWp.loopS (α:=Nat) 46 (fun u=>[(1,.c (.ptr 0 0)),(2,.c (.int .i64 0)),(3,.c (.int .i64 ((p:Int)+1))),(4,.c (.ref 1 1 0 n n)),(5,.c (.int .i64 (v:Int))),(6,.c (.slice (A1m R) .none)),(7,.c (.int .i64 (u:Int)))]) (fun u=>[.box [.int .i64 (n:Int),.slice (A0b es) .none],.box (bC (orK R S u))]) (fun u=>u≤n) (fun u=>n-u) (0) (hk:=A0s.headL 2 46 [1,2,3,4,5,6,7] zW) (h0:=?_) (round:=fun u hI=>?_)
    ·exact Nat.zero_le _
    ·have hu:u≤n:=hI
     clear hI
     have hlen2:(orK R S u).length=n:=(B4R R S u).trans hlen
     by_cases hltu:u<n
     ·have hltuI:(u:Int)<n:=by omega
      have hO:orK R S (u+1)=A7Q R (orK R S u) u:=A1a _ _ _
      generalize orK R S u=T at*
      obtain ⟨y,hy⟩:=A7d hlen2 hltu
      obtain ⟨z,hz⟩:=A7d hrl hltu
      unfold A7Q at hO
      rw [B1E hy,B1E hz] at hO
      have hd2:=B1D hy
      have hg2:=A6G hy
      have hg3:=A4z hz
      cases y with
      | true=>
       rw [Bool.true_or] at hO
       refine zR (zc @hltuI (zc @hd2 (zc @hg2 (zc @hg3 (zc @A1z (zc @hlen2 (zc @A4W (zc @A0V (zc @hrl trivial))))))))) trivial trivial ?_
       refine ⟨u+1,A0s.headF 2 46 [1,2,3,4,5,6,7] (zc @hO trivial) zW,?_,?_⟩
       ·exact hltu
       ·omega
      | false=>
       rw [Bool.false_or] at hO
       refine zR (zc @hltuI (zc @hd2 (zc @hg2 (zc @hg3 (zc @A1z (zc @hlen2 (zc @A4W (zc @A0V (zc @hrl trivial))))))))) trivial trivial ?_
       refine ⟨u+1,A0s.headF 2 46 [1,2,3,4,5,6,7] (zc @hO trivial) zW,?_,?_⟩
       ·exact hltu
       ·omega
     ·have eu:u=n:=by omega
      subst eu
      have hnl: ¬((u:Int)<u):=by omega
      refine zR (zc @hnl trivial) trivial trivial ?_
      refine ⟨v+1,A0s.headF 2 46 [1,2,3,4,5] (zc @hS1 (zc @hP1 trivial)) zW,?_,?_⟩
      ·exact hlt
      ·omega
  ·have ev:v=n:=by omega
   subst ev
   have hnl: ¬((v:Int)<v):=by omega
   refine zR (zc @hnl trivial) trivial trivial ?_
   simp [A0E,A0C,Blk.cells,ty,Try.results81,A0y,A05,toT,A0e,A0c,A0d,A0a,A0g]
def connB (g:G):Bool:=decide (A2m g.es g.n.toNat g.n.toNat=1)
def A0D (g:G):Int:=if checkG g≠0 then checkG g else if connB g=true then 0 else 13
structure ROk (r:R):Prop where
 c:checkG r.g=0
 conn:connB r.g=true
 len:(r.ar.length:Int)=r.n
 l: ∀(i:Nat) l,r.ar[i]? =some l→LOk l (ownL (endsL r.es) (i:Int) (2*(endsL r.es).length))
section
variable {r:R}
end
def rowB (r:List Int):Blk:= .box (iC r)
def B8i (T:List (List Int)):List (List Tree):=(T.map fun r=>Tree.slice (A0p r)).map fun t=>[t]
def B9M (T:List (List Int)):TVal:= .t (.slice (B8i T))
attribute [go_sem] B9M
structure Sq (n:Nat) (T:List (List Int)):Prop where
 len:T.length=n
 row: ∀r,r∈T→r.length=n
def B9I (f:Nat→Int) (a b:Nat):List E:=(List.range b).filterMap fun j=>if a≤j∧0<f j then some ⟨a,j,f j⟩ else none
@[simp] theorem B8F (f:Nat→Int) (a:Nat):B9I f a a=[]:=by
 simp only [B9I,List.filterMap_eq_nil_iff,List.mem_range]
 intro j hj
 rw [if_neg (by omega)]
section
variable {P:Program} {rd:Option Nat} {h:Nat} {Q:Exit→St→Prop} {c:Code} {tm:List AVal}
end
def B8G (n:Nat) (g:Nat→Nat→Int):List (List Int):=(List.range n).map fun a=>(List.range n).map fun b=>g a b
theorem B4T (n:Nat) (g:Nat→Nat→Int):Sq n (B8G n g):=⟨by simp [B8G],fun r hr=>by obtain ⟨a,_,rfl⟩:=List.mem_map.1 hr; simp⟩
@[simp] theorem B8Y (n:Nat) (g:Nat→Nat→Int):(B8G n g).take n=B8G n g:=List.take_of_length_le (by rw [(B4T n g).len]; exact Nat.le_refl _)
@[simp] theorem B94 (n:Nat) (g:Nat→Nat→Int):((B8G n g).map rowB).take n=(B8G n g).map rowB:=List.take_of_length_le (by rw [List.length_map,(B4T n g).len]; exact Nat.le_refl _)
end Go.Proofs.Ytdhfgihnoimoaaa
