/- A part of the proof. -/
import Derived.Test.YtdhfgihnoimoaaaPart10
import Derived.Test.YtdhfgihnoimoaaaLayerC
import Derived.Test.YtdhfgihnoimoaaaPart05
import Derived.Test.YtdhfgihnoimoaaaPart07
set_option linter.all false
set_option maxHeartbeats 4000000
set_option maxRecDepth 100000
namespace Go.Proofs.Ytdhfgihnoimoaaa
open Go.Sp
theorem B1A (g:G) (a b:Int) (hl:g.es.length<2^40):ACall Try.prog 114 [tG g,A0j a,A0j b] (A0j (B2w g.es (min a b) (max a b))):=by
 refine ACall.of_body Try.func114 rfl (by kernel_rfl) ?_
 simp only [entry,Try.ntmps114,tG,A0j]
 refine zU ?_
 refine zR trivial trivial trivial ?_
 refine AWp.loopS (α:=Nat) 37 (fun i=>[(1,.c (.int .i64 a)),(2,.c (.int .i64 b)),(3,.c (.ptr 0 0)),(7,.c (.int .i64 (i:Int)))]) (fun i=>[.box [.int .i64 g.n,.slice (A0b g.es) .none]]) (fun i=>i≤g.es.length∧B2w g.es (min a b) (max a b)=B2w (g.es.drop i) (min a b) (max a b)) (fun i=>g.es.length-i) (0) (hk:=A0r.headL 1 37 [1,2,3,7] zW) (h0:=?_) (round:=fun i hI=>?_)
 ·exact ⟨Nat.zero_le _,rfl⟩
 ·obtain ⟨hi,hx⟩:=hI
  by_cases hlt:i<g.es.length
  ·have e1:=A1A (List.getElem?_eq_getElem hlt)
   rw [List.drop_eq_getElem_cons hlt,B2w] at hx
   generalize hy:g.es[i]=x at*
   repeat' (first|((first|(refine zT ?_;intro K' hK')|(refine zG ?_ ?_<;>(try refine zH ?_)<;>intro hguard<;>(try exact zX)<;>try intro K' hK'))<;>((try simp+contextual only [go_sem,e1,A0u,Int.toNat_natCast,Int.ofNat_lt]);(repeat' first|(with_reducible refine hK' _ _ ?_;clear hK' K')|exact zY|with_reducible refine And.intro ?_ ?_|(with_reducible intro hpath;try exact zP)|(refine hK' _ _ ?_;clear hK' K')|fail);try refine zS ?_))|(refine zE ?_;refine hK _ _ ?_;clear hK K)|(refine zN ?_;try refine zS ?_)|refine zA ?_|(refine zB ?_;intro K hK)|(refine zC ?_ ?_<;>(try refine zH ?_)<;>intro hcond<;>try exact zX)|fail)
   ·rw [if_pos ⟨by omega,by omega⟩] at hx
    simp [A0J,A0I,Blk.cells,ty,Try.results114,A05,A08,toT,A0e,A0c,A0d,A0a,A0j,hx]
   all_goals
    rw [if_neg (by omega)] at hx
    refine ⟨i+1,A0r.headN 1 37 [1,2,3,7] zW,?_,?_⟩
    ·exact ⟨hlt,hx⟩
    ·omega
  ·have ei:i=g.es.length:=by omega
   have h0:B2w g.es (min a b) (max a b)=0:=by rw [hx,ei,List.drop_length,B2w]
   refine zR (zc @A0u (zc @Int.ofNat_lt trivial)) trivial trivial ?_
   simp [A0J,A0I,Blk.cells,ty,Try.results114,A05,A08,toT,A0e,A0c,A0d,A0a,A0j,h0]
theorem B67 {es:List E} (hm: ∀e,e∈es→1≤e.m) {a b:Int}:0<B2w es a b↔ ∃e,e∈es∧e.a=a∧e.b=b:=by
 induction es with
 | nil=>simp [B2w]
 | cons x xs ih=>
  have ih:=ih fun e he=>hm e (by simp [he])
  simp only [B2w]
  split
  ·rename_i h
   exact ⟨fun _=>⟨x,by simp,h.1,h.2⟩,fun _=>by have:=hm x (by simp); omega⟩
  ·rename_i h
   rw [ih]
   constructor
   ·rintro ⟨e,he,h1,h2⟩; exact ⟨e,by simp [he],h1,h2⟩
   ·rintro ⟨e,he,h1,h2⟩
    rcases List.mem_cons.1 he with rfl | he
    ·exact absurd ⟨h1,h2⟩ h
    ·exact ⟨e,he,h1,h2⟩
def bC (R:List Bool):List ACell:=R.map ACell.bool
def A1p (R:List Bool):List (List Tree):=R.map fun b=>[Tree.bool b]
def A3Y (R:List Bool):TVal:= .t (.slice (A1p R))
attribute [go_sem] A3Y
theorem A10 (R:List Bool):(bC R).length=R.length:=by simp [bC]
theorem A1f (R:List Bool):(A1p R).length=R.length:=by simp [A1p]
theorem A6C {R:List Bool} {i:Nat} {b:Bool} (h:R[i]? =some b):(bC R)[i]? =some (.bool b):=by simp [bC,h]
theorem A5H {R:List Bool} {i:Nat} {b:Bool} (h:R[i]? =some b):(A1p R)[i]? =some [.bool b]:=by simp [A1p,h]
theorem A5I (R:List Bool) (i:Nat) (b:Bool):(bC R).set i (.bool b)=bC (R.set i b):=by simp [bC,List.map_set]
theorem B1B {R:List Bool} {i:Nat} {b:Bool} (h:R[i]? =some b):(bC R).drop i= .bool b::(bC R).drop (i+1):=by
 have hl:=(List.getElem?_eq_some_iff.1 h)
 rw [List.drop_eq_getElem_cons (by rw [A10]; exact hl.1)]
 obtain ⟨h1,rfl⟩:=hl
 simp [bC]
theorem A34 (n:Nat):A7y [ACell.bool false] n=bC (List.replicate n false):=by
 simp [A7y,bC]
def B4b (es:List E) (a b:Nat):Bool:=decide (0<B2w es (min (a:Int) b) (max (a:Int) b))
def A35 (es:List E) (a:Nat) (R:List Bool) (b:Nat):List Bool:=if R.getD a false&&B4b es a b then R.set b true else R
def rRow (es:List E) (n a:Nat) (R:List Bool):List Bool:=(List.range n).foldl (A35 es a) R
def A6D (es:List E) (n:Nat) (R:List Bool):List Bool:=(List.range n).foldl (fun R a=>rRow es n a R) R
def A1x (es:List E) (n v k:Nat):List Bool:=(List.range k).foldl (fun R _=>A6D es n R) ((List.replicate n false).set v true)
def A7M (es:List E) (n v:Nat):List Bool:=A1x es n v n
theorem A0Y {α:Type} (f:α→Nat→α) (z:α) (k:Nat):(List.range (k+1)).foldl f z=f ((List.range k).foldl f z) k:=by rw [List.range_succ,List.foldl_append]; rfl
theorem A3b {f:List Bool→Nat→List Bool} (h: ∀R i,(f R i).length=R.length) (l:List Nat) (R:List Bool):(l.foldl f R).length=R.length:=by
 induction l generalizing R with
 | nil=>rfl
 | cons x xs ih=>rw [List.foldl_cons,ih,h]
theorem A5J (es:List E) (a:Nat) (R:List Bool) (b:Nat):(A35 es a R b).length=R.length:=by unfold A35; split<;>simp
theorem B2z (es:List E) (n a:Nat) (R:List Bool):(rRow es n a R).length=R.length:=A3b (A5J es a) _ _
theorem B3z (es:List E) (n:Nat) (R:List Bool):(A6D es n R).length=R.length:=A3b (fun R a=>B2z es n a R) _ _
theorem A4F (es:List E) (n v k:Nat):(A1x es n v k).length=n:=by
 unfold A1x; rw [A3b (fun R _=>B3z es n R)]; simp
theorem B4L {es:List E} {a:Nat} {R:List Bool} {b:Nat} {x:Bool} (h:R[a]? =some x):A35 es a R b=if x=true∧0<B2w es (min (a:Int) b) (max (a:Int) b) then R.set b true else R:=by
 unfold A35 B4b
 rw [List.getD_eq_getElem?_getD,h,Option.getD_some]
 cases x<;>simp
theorem A6W {R:List Bool} {n a:Nat} (h:R.length=n) (ha:a<n): ∃x,R[a]? =some x:=⟨_,List.getElem?_eq_getElem (by omega)⟩
theorem B9h {R:List Bool} {n:Nat} (h:R.length=n) {H:List Blk} {id:Nat} (hid:H[id]? =some (.box (bC R))):A0e H (.ref id 1 0 n n)=some (.slice (A1p R)):=by
 have e:A0e H (.ref id 1 0 n n)=A0c H (.ref id 1 0 n n):=rfl
 have hf:=A68 (rows:=A1p R) (k:=1) (cap:=n) (fun r hr=>by obtain ⟨b,_,rfl⟩:=List.mem_map.1 hr; rfl) (fun r hr=>by obtain ⟨b,_,rfl⟩:=List.mem_map.1 hr; rfl) (by rw [A1f]; omega)
 have hfl:flatRows (A1p R)=bC R:=by
  simp only [flatRows,A1p,bC]
  clear e hf hid h
  induction R with
  | nil=>rfl
  | cons x xs ih=>simp only [List.map_cons,List.flatten_cons,List.map_append,ih]; rfl
 rw [hfl,A1f,h] at hf
 unfold A5i at hf
 rw [e]
 simp only [A0c,hid,Blk.cells,Option.bind_some]
 split at hf
 ·rename_i hc
  rw [if_pos hc]
  cases hm:(((bC R).drop 0).take (n*1)).mapM A0a with
  | none=>rw [hm] at hf; simp at hf
  | some ts=>
   rw [hm] at hf
   simp only [Option.bind_some] at hf
   split at hf
   ·simp at hf; simp [hf]
   ·simp at hf
 ·simp at hf
theorem B30 (g:G) (n v:Nat) (hc:checkG g=0) (hn:g.n=n) (hv:v<n) (hl:g.es.length<2^30):ACall Try.prog 103 [tG g,A0j v] (A3Y (A7M g.es n v)):=by
 have hn12:=(A0w.1 hc).1
 have hbe: ∀a b:Nat,ACall Try.prog 114 [tG g,A0j a,A0j b] (A0j (B2w g.es (min (a:Int) b) (max (a:Int) b))):=fun a b=>B1A g a b (by omega)
 obtain ⟨gn,es⟩:=g
 simp only at hn hl hn12 hbe ⊢
 subst hn
 refine ACall.of_body Try.func103 rfl (by kernel_rfl) ?_
 simp only [entry,Try.ntmps103,tG,A0j]
 refine zU ?_
 repeat' (first|((first|(refine zT ?_;intro K' hK')|(refine zG ?_ ?_<;>(try refine zH ?_)<;>intro hguard<;>(try exact zX)<;>try intro K' hK'))<;>((try simp+contextual only [go_sem,A34,Int.toNat_natCast,Nat.mul_one,A5I,A10,List.length_replicate]);(repeat' first|(with_reducible refine hK' _ _ ?_;clear hK' K')|exact zY|with_reducible refine And.intro ?_ ?_|(with_reducible intro hpath;try exact zP)|(refine hK' _ _ ?_;clear hK' K')|fail);try refine zS ?_))|(refine zE ?_;refine hK _ _ ?_;clear hK K)|(refine zN ?_;try refine zS ?_)|refine zA ?_|(refine zB ?_;intro K hK)|(refine zC ?_ ?_<;>(try refine zH ?_)<;>intro hcond<;>try exact zX)|fail)
 refine AWp.loopS (α:=Nat) 48 (fun k=>[(1,.c (.int .i64 (v:Int))),(2,.c (.ptr 0 0)),(5,.c (.ref 1 1 0 n n)),(6,.c (.int .i64 (k:Int)))]) (fun k=>[.box [.int .i64 (n:Int),.slice (A0b es) .none],.box (bC (A1x es n v k))]) (fun k=>k≤n) (fun k=>n-k) (0) (hk:=A0r.headL 2 48 [1,2,5,6] zW) (h0:=?_) (round:=fun k hI=>?_)
 ·exact Nat.zero_le _
 ·have hk:k≤n:=hI
  clear hI
  by_cases hlt:k<n
  ·have hltI:(k:Int)<n:=by omega
   have hN:A1x es n v (k+1)=A6D es n (A1x es n v k):=A0Y _ _ _
   have hlen:=A4F es n v k
   generalize A1x es n v k=R at*
   refine zR (zc @hltI trivial) trivial trivial ?_
   refine AWp.loopS (α:=Nat) 48 (fun a=>[(1,.c (.int .i64 (v:Int))),(2,.c (.ptr 0 0)),(5,.c (.ref 1 1 0 n n)),(6,.c (.int .i64 (k:Int))),(7,.c (.int .i64 (a:Int)))]) (fun a=>[.box [.int .i64 (n:Int),.slice (A0b es) .none],.box (bC ((List.range a).foldl (fun R a=>rRow es n a R) R))]) (fun a=>a≤n) (fun a=>n-a) (0) (hk:=A0r.headL 2 48 [1,2,5,6,7] zW) (h0:=?_) (round:=fun a hI=>?_)
   ·exact Nat.zero_le _
   ·have ha:a≤n:=hI
    clear hI
    by_cases hlta:a<n
    ·have hltaI:(a:Int)<n:=by omega
     have hA:(List.range (a+1)).foldl (fun R a=>rRow es n a R) R=rRow es n a ((List.range a).foldl (fun R a=>rRow es n a R) R):=A0Y _ _ _
     have hlen2:((List.range a).foldl (fun R a=>rRow es n a R) R).length=n:=by rw [A3b (fun R a=>B2z es n a R),hlen]
     generalize (List.range a).foldl (fun R a=>rRow es n a R) R=S at*
     refine zR (zc @hltaI trivial) trivial trivial ?_
     refine AWp.loopS (α:=Nat) 48 (fun b=>[(1,.c (.int .i64 (v:Int))),(2,.c (.ptr 0 0)),(5,.c (.ref 1 1 0 n n)),(6,.c (.int .i64 (k:Int))),(7,.c (.int .i64 (a:Int))),(8,.c (.int .i64 (b:Int)))]) (fun b=>[.box [.int .i64 (n:Int),.slice (A0b es) .none],.box (bC ((List.range b).foldl (A35 es a) S))]) (fun b=>b≤n) (fun b=>n-b) (0) (hk:=A0r.headL 2 48 [1,2,5,6,7,8] zW) (h0:=?_) (round:=fun b hI=>?_)
     ·exact Nat.zero_le _
     ·have hb:b≤n:=hI
      clear hI
      by_cases hltb:b<n
      ·have hltbI:(b:Int)<n:=by omega
       have hB:(List.range (b+1)).foldl (A35 es a) S=A35 es a ((List.range b).foldl (A35 es a) S) b:=A0Y _ _ _
       have hlen3:((List.range b).foldl (A35 es a) S).length=n:=by rw [A3b (A5J es a),hlen2]
       generalize (List.range b).foldl (A35 es a) S=T at*
       obtain ⟨x,hx⟩:=A6W hlen3 hlta
       have hd:=B1B hx
       have hst:=B4L (es:=es) (b:=b) hx
       have hbb:=hbe a b
       have hg:=A6C hx
       generalize B2w es (min (a:Int) b) (max (a:Int) b)=c at*
       cases x with
       | true=>
        by_cases hcp:0<c
        ·rw [if_pos ⟨rfl,hcp⟩] at hst
         rw [hst] at hB
         refine zR (zc @hltbI (zc @hd (zc @hg (zc @hcp (zc @A10 (zc @hlen3 (zc @A5I trivial))))))) (zc hbb trivial) trivial ?_
         refine ⟨b+1,A0r.headF 2 48 [1,2,5,6,7,8] (zc @hB trivial) zW,?_,?_⟩
         ·exact hltb
         ·omega
        ·rw [if_neg (by simp [hcp])] at hst
         rw [hst] at hB
         refine zR (zc @hltbI (zc @hd (zc @hg (zc @hcp (zc @A10 (zc @hlen3 trivial)))))) (zc hbb trivial) trivial ?_
         refine ⟨b+1,A0r.headF 2 48 [1,2,5,6,7,8] (zc @hB trivial) zW,?_,?_⟩
         ·exact hltb
         ·omega
       | false=>
        rw [if_neg (by simp)] at hst
        rw [hst] at hB
        refine zR (zc @hltbI (zc @hd (zc @hg (zc @A10 (zc @hlen3 trivial))))) trivial trivial ?_
        refine ⟨b+1,A0r.headF 2 48 [1,2,5,6,7,8] (zc @hB trivial) zW,?_,?_⟩
        ·exact hltb
        ·omega
      ·have eb:b=n:=by omega
       subst eb
       have hnl: ¬((b:Int)<b):=by omega
       have hA':(List.range (a+1)).foldl (fun R a=>rRow es b a R) R=(List.range b).foldl (A35 es a) S:=hA
       refine zR (zc @hnl trivial) trivial trivial ?_
       refine ⟨a+1,A0r.headF 2 48 [1,2,5,6,7] (zc @hA' trivial) zW,?_,?_⟩
       ·exact hlta
       ·omega
    ·have ea:a=n:=by omega
     subst ea
     have hnl: ¬((a:Int)<a):=by omega
     have hN':A1x es a v (k+1)=(List.range a).foldl (fun R b=>rRow es a b R) R:=hN
     refine zR (zc @hnl trivial) trivial trivial ?_
     refine ⟨k+1,A0r.headF 2 48 [1,2,5,6] (zc @hN' trivial) zW,?_,?_⟩
     ·exact hlt
     ·omega
  ·have ek:k=n:=by omega
   subst ek
   have hnl: ¬((k:Int)<k):=by omega
   have hlen:=A4F es k v k
   refine zR (zc @hnl trivial) trivial trivial ?_
   have hR:=B9h hlen (H:=[Blk.box [.int .i64 (k:Int),.slice (A0b es) .none],Blk.box (bC (A1x es k v k))]) (id:=1) rfl
   simp [A0J,A0I,Try.results103,A05,A08,toT,A3Y,A7M,hR]
def A7N (R S:List Bool) (u:Nat):List Bool:=S.set u (S.getD u false||R.getD u false)
def orK (R S:List Bool) (k:Nat):List Bool:=(List.range k).foldl (A7N R) S
theorem A8D (R S:List Bool) (u:Nat):(A7N R S u).length=S.length:=by simp [A7N]
theorem B4M (R S:List Bool) (k:Nat):(orK R S k).length=S.length:=A3b (A8D R) _ _
def seenStep (es:List E) (n:Nat) (S:List Bool) (v:Nat):List Bool:=if S.getD v false then S else orK (A7M es n v) S n
def A5K (es:List E) (n v:Nat):List Bool:=(List.range v).foldl (seenStep es n) (List.replicate n false)
theorem B08 (es:List E) (n v:Nat):(A5K es n v).length=n:=by
 unfold A5K
 rw [A3b (fun S v=>by unfold seenStep; split<;>simp [B4M])]; simp
def A2k (es:List E) (n:Nat):Nat→Nat
 | 0=>0
 | v+1=>if (A5K es n v).getD v false then A2k es n v else A2k es n v+1
theorem B4N (es:List E) (n v:Nat):A2k es n v≤v:=by
 induction v with
 | zero=>exact Nat.le_refl _
 | succ v ih=>simp only [A2k]; split<;>omega
theorem B1C {R:List Bool} {i:Nat} {x:Bool} (h:R[i]? =some x):R.getD i false=x:=by rw [List.getD_eq_getElem?_getD,h]; rfl
theorem B68 (g:G) (n:Nat) (hc:checkG g=0) (hn:g.n=n) (hl:g.es.length<2^30):ACall Try.prog 81 [tG g] (A0j (A2k g.es n n)):=by
 have hn12:=(A0w.1 hc).1
 have hre: ∀v:Nat,v<n→ACall Try.prog 103 [tG g,A0j v] (A3Y (A7M g.es n v)):=fun v hv=>B30 g n v hc hn hv hl
 obtain ⟨gn,es⟩:=g
 simp only at hn hl hn12 hre ⊢
 subst hn
 refine ACall.of_body Try.func81 rfl (by kernel_rfl) ?_
 simp only [entry,Try.ntmps81,tG]
 refine zU ?_
 repeat' (first|((first|(refine zT ?_;intro K' hK')|(refine zG ?_ ?_<;>(try refine zH ?_)<;>intro hguard<;>(try exact zX)<;>try intro K' hK'))<;>((try simp+contextual only [go_sem,A34,Int.toNat_natCast,Nat.mul_one,A5I,A10,List.length_replicate]);(repeat' first|(with_reducible refine hK' _ _ ?_;clear hK' K')|exact zY|with_reducible refine And.intro ?_ ?_|(with_reducible intro hpath;try exact zP)|(refine hK' _ _ ?_;clear hK' K')|fail);try refine zS ?_))|(refine zE ?_;refine hK _ _ ?_;clear hK K)|(refine zN ?_;try refine zS ?_)|refine zA ?_|(refine zB ?_;intro K hK)|(refine zC ?_ ?_<;>(try refine zH ?_)<;>intro hcond<;>try exact zX)|fail)
 refine AWp.loopS (α:=Nat) 46 (fun v=>[(1,.c (.ptr 0 0)),(2,.c (.int .i64 0)),(3,.c (.int .i64 (A2k es n v))),(4,.c (.ref 1 1 0 n n)),(5,.c (.int .i64 (v:Int)))]) (fun v=>[.box [.int .i64 (n:Int),.slice (A0b es) .none],.box (bC (A5K es n v))]) (fun v=>v≤n) (fun v=>n-v) (0) (hk:=A0r.headL 2 46 [1,2,3,4,5] zW) (h0:=?_) (round:=fun v hI=>?_)
 ·exact Nat.zero_le _
 ·have hv:v≤n:=hI
  clear hI
  have hlen:=B08 es n v
  have hpl:=B4N es n v
  by_cases hlt:v<n
  ·have hltI:(v:Int)<n:=by omega
   have hS1:A5K es n (v+1)=seenStep es n (A5K es n v) v:=A0Y _ _ _
   have hP1:A2k es n (v+1)=if (A5K es n v).getD v false then A2k es n v else A2k es n v+1:=rfl
   have hrv:=hre v hlt
   have hrl:=A4F es n v n
   generalize A2k es n v=p at*
   generalize A5K es n v=S at*
   obtain ⟨x,hx⟩:=A6W hlen hlt
   unfold seenStep at hS1
   rw [B1C hx] at hS1 hP1
   have hd:=B1B hx
   have hg:=A6C hx
   cases x with
   | true=>
    rw [if_pos rfl] at hS1 hP1
    refine zR (zc @hltI (zc @hd (zc @hg (zc @A10 (zc @hlen trivial))))) trivial trivial ?_
    refine ⟨v+1,A0r.headF 2 46 [1,2,3,4,5] (zc @hS1 (zc @hP1 trivial)) zW,?_,?_⟩
    ·exact hlt
    ·omega
   | false=>
    rw [if_neg (by simp)] at hS1 hP1
    change (A7M es n v).length=n at hrl
    generalize A7M es n v=R at*
    refine zR (zc @hltI (zc @hd (zc @hg (zc @A10 (zc @hlen trivial))))) (zc hrv trivial) trivial ?_
    refine AWp.loopS (α:=Nat) 46 (fun u=>[(1,.c (.ptr 0 0)),(2,.c (.int .i64 0)),(3,.c (.int .i64 ((p:Int)+1))),(4,.c (.ref 1 1 0 n n)),(5,.c (.int .i64 (v:Int))),(6,.c (.slice (A1p R) .none)),(7,.c (.int .i64 (u:Int)))]) (fun u=>[.box [.int .i64 (n:Int),.slice (A0b es) .none],.box (bC (orK R S u))]) (fun u=>u≤n) (fun u=>n-u) (0) (hk:=A0r.headL 2 46 [1,2,3,4,5,6,7] zW) (h0:=?_) (round:=fun u hI=>?_)
    ·exact Nat.zero_le _
    ·have hu:u≤n:=hI
     clear hI
     have hlen2:(orK R S u).length=n:=(B4M R S u).trans hlen
     by_cases hltu:u<n
     ·have hltuI:(u:Int)<n:=by omega
      have hO:orK R S (u+1)=A7N R (orK R S u) u:=A0Y _ _ _
      generalize orK R S u=T at*
      obtain ⟨y,hy⟩:=A6W hlen2 hltu
      obtain ⟨z,hz⟩:=A6W hrl hltu
      unfold A7N at hO
      rw [B1C hy,B1C hz] at hO
      have hd2:=B1B hy
      have hg2:=A6C hy
      have hg3:=A5H hz
      cases y with
      | true=>
       rw [Bool.true_or] at hO
       refine zR (zc @hltuI (zc @hd2 (zc @hg2 (zc @hg3 (zc @A10 (zc @hlen2 (zc @A5I (zc @A1f (zc @hrl trivial))))))))) trivial trivial ?_
       refine ⟨u+1,A0r.headF 2 46 [1,2,3,4,5,6,7] (zc @hO trivial) zW,?_,?_⟩
       ·exact hltu
       ·omega
      | false=>
       rw [Bool.false_or] at hO
       refine zR (zc @hltuI (zc @hd2 (zc @hg2 (zc @hg3 (zc @A10 (zc @hlen2 (zc @A5I (zc @A1f (zc @hrl trivial))))))))) trivial trivial ?_
       refine ⟨u+1,A0r.headF 2 46 [1,2,3,4,5,6,7] (zc @hO trivial) zW,?_,?_⟩
       ·exact hltu
       ·omega
     ·have eu:u=n:=by omega
      subst eu
      have hnl: ¬((u:Int)<u):=by omega
      refine zR (zc @hnl trivial) trivial trivial ?_
      refine ⟨v+1,A0r.headF 2 46 [1,2,3,4,5] (zc @hS1 (zc @hP1 trivial)) zW,?_,?_⟩
      ·exact hlt
      ·omega
  ·have ev:v=n:=by omega
   subst ev
   have hnl: ¬((v:Int)<v):=by omega
   refine zR (zc @hnl trivial) trivial trivial ?_
   simp [A0J,A0I,Blk.cells,ty,Try.results81,A05,A08,toT,A0e,A0c,A0d,A0a,A0j]
def connB (g:G):Bool:=decide (A2k g.es g.n.toNat g.n.toNat=1)
def A02 (g:G):Int:=if checkG g≠0 then checkG g else if connB g=true then 0 else 13
structure ROk (r:R):Prop where
 c:checkG r.g=0
 conn:connB r.g=true
 len:(r.ar.length:Int)=r.n
 l: ∀(i:Nat) l,r.ar[i]? =some l→LOk l (ownL (endsL r.es) (i:Int) (2*(endsL r.es).length))
section
variable {r:R}
end
def rowB (r:List Int):Blk:= .box (iC r)
def B8k (T:List (List Int)):List (List Tree):=(T.map fun r=>Tree.slice (A0q r)).map fun t=>[t]
def B9V (T:List (List Int)):TVal:= .t (.slice (B8k T))
attribute [go_sem] B9V
structure Sq (n:Nat) (T:List (List Int)):Prop where
 len:T.length=n
 row: ∀r,r∈T→r.length=n
def B9Q (f:Nat→Int) (a b:Nat):List E:=(List.range b).filterMap fun j=>if a≤j∧0<f j then some ⟨a,j,f j⟩ else none
@[simp] theorem B8M (f:Nat→Int) (a:Nat):B9Q f a a=[]:=by
 simp only [B9Q,List.filterMap_eq_nil_iff,List.mem_range]
 intro j hj
 rw [if_neg (by omega)]
section
variable {P:Program} {rd:Option Nat} {h:Nat} {Q:Exit→St→Prop} {c:Code} {tm:List AVal}
end
def B8N (n:Nat) (g:Nat→Nat→Int):List (List Int):=(List.range n).map fun a=>(List.range n).map fun b=>g a b
theorem B4O (n:Nat) (g:Nat→Nat→Int):Sq n (B8N n g):=⟨by simp [B8N],fun r hr=>by obtain ⟨a,_,rfl⟩:=List.mem_map.1 hr; simp⟩
@[simp] theorem B9i (n:Nat) (g:Nat→Nat→Int):(B8N n g).take n=B8N n g:=List.take_of_length_le (by rw [(B4O n g).len]; exact Nat.le_refl _)
@[simp] theorem B9D (n:Nat) (g:Nat→Nat→Int):((B8N n g).map rowB).take n=(B8N n g).map rowB:=List.take_of_length_le (by rw [List.length_map,(B4O n g).len]; exact Nat.le_refl _)
end Go.Proofs.Ytdhfgihnoimoaaa
