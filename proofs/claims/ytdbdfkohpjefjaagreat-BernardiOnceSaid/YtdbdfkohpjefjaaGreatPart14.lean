/- A part of the proof. -/
import Derived.Test.YtdbdfkohpjefjaaGreatPart10
set_option linter.all false
set_option maxHeartbeats 4000000
set_option maxRecDepth 100000
namespace Go.Proofs.YtdbdfkohpjefjaaGreat
open Go.Sp
structure RightG (g:G) (n:Nat):Prop where
 c:checkG g=0
 nn:g.n=n
 n1:1≤n
 n12:n≤12
 l:g.es.length≤40
 s:(endsL g.es).length≤400
theorem A5N (g:G) (a b:Int) (hl:g.es.length<2^40):ACall Tryz.prog 176 [tG g,A0k a,A0k b] (A0k (A1G g.es (min a b) (max a b))):=by
 refine ACall.of_body Tryz.func176 rfl (by kernel_rfl) ?_;simp only [entry,Tryz.ntmps176,tG,A0k];refine zU ?_;refine zR Qw9 Qw9 Qw9 ?_;refine AWp.loopS (α:=Nat) 37 (fun i=>[(1,.c (.int .i64 a)),(2,.c (.int .i64 b)),(3,.c (.ptr 0 0)),(7,.c (.int .i64 (i:Int)))]) (fun i=>[.box [.int .i64 g.n,.slice (A0f g.es) .none]]) (fun i=>i≤g.es.length∧A1G g.es (min a b) (max a b)=A1G (g.es.drop i) (min a b) (max a b)) (fun i=>g.es.length-i) (0) (hk:=Weak.headL 1 37 [1,2,3,7] zW) (h0:=?_) (round:=fun i hI=>?_)
 ·exact ⟨Xj _,rfl⟩
 ·obtain ⟨hi,hx⟩:=hI;by_cases hlt:i<g.es.length
  ·have e1:=A2e (Qq hlt);rw [XV hlt,A1G] at hx;generalize hy:g.es[i]=x at*
   repeat' (first|((first|(refine zT ?_;intro K' hK')|(refine zG ?_ ?_<;>(try refine zH ?_)<;>intro hguard<;>(try exact zX)<;>try intro K' hK'))<;>((try simp+contextual only [go_sem,e1,A06,Int.toNat_natCast,ZX]);(repeat' first|(with_reducible refine hK' _ _ ?_;clear hK' K')|exact zY|with_reducible refine Qw8 ?_ ?_|(with_reducible intro hpath;try exact zP)|(refine hK' _ _ ?_;clear hK' K')|fail);try refine zS ?_))|(refine zE ?_;refine hK _ _ ?_;clear hK K)|(refine zN ?_;try refine zS ?_)|refine zA ?_|(refine zB ?_;intro K hK)|(refine zC ?_ ?_<;>(try refine zH ?_)<;>intro hcond<;>try exact zX)|fail)
   ·rw [if_pos ⟨by omega,by omega⟩] at hx;simp [A0y,A0x,Blk.cells,ty,Tryz.results176,A0s,A0t,toT,A0d,A0b,A0c,A0a,A0k,hx]
   all_goals
    rw [if_neg (by omega)] at hx;refine ⟨i+1,Weak.headN 1 37 [1,2,3,7] zW,?_,?_⟩
    ·exact ⟨hlt,hx⟩
    ·omega
  ·have ei:i=g.es.length:=by omega
   have h0:A1G g.es (min a b) (max a b)=0:=by rw [hx,ei,Vk,A1G]
   refine zR (zc @A06 (zc @ZX Qw9)) Qw9 Qw9 ?_;simp [A0y,A0x,Blk.cells,ty,Tryz.results176,A0s,A0t,toT,A0d,A0b,A0c,A0a,A0k,h0]
theorem C1q {es:List E} (hm: ∀e,e∈es->1≤e.m) {a b:Int}:0<A1G es a b↔ ∃e,e∈es∧e.a=a∧e.b=b:=by
 induction es with
 | nil=>simp [A1G]
 | cons x xs ih=>
  have ih:=ih fun e he=>hm e (by simp [he]);simp only [A1G];split
  ·rename_i h;exact ⟨fun _=>⟨x,by simp,h.1,h.2⟩,fun _=>by have:=hm x (by simp); omega⟩
  ·rename_i h;rw [ih];constructor
   ·rintro ⟨e,he,h1,h2⟩; exact ⟨e,by simp [he],h1,h2⟩
   ·rintro ⟨e,he,h1,h2⟩;rcases Qw.1 he with rfl | he
    ·exact absurd ⟨h1,h2⟩ h
    ·exact ⟨e,he,h1,h2⟩
def bC (R:List Bool):List ACell:=R.map ACell.bool
def A4v (R:List Bool):List (List Tree):=R.map fun b=>[Tree.bool b]
def B0b (R:List Bool):TVal:= .t (.slice (A4v R))
attribute [go_sem] B0b
theorem A1U (R:List Bool):(bC R).length=R.length:=by simp [bC]
theorem A4O (R:List Bool):(A4v R).length=R.length:=by simp [A4v]
theorem B0c {R:List Bool} {i:Nat} {b:Bool} (h:R[i]? =some b):(bC R)[i]? =some (.bool b):=by simp [bC,h]
theorem B8w {R:List Bool} {i:Nat} {b:Bool} (h:R[i]? =some b):(A4v R)[i]? =some [.bool b]:=by simp [A4v,h]
theorem A6w (R:List Bool) (i:Nat) (b:Bool):(bC R).set i (.bool b)=bC (R.set i b):=by simp [bC,Qj5]
theorem B32 {R:List Bool} {i:Nat} {b:Bool} (h:R[i]? =some b):(bC R).drop i= .bool b::(bC R).drop (i+1):=by
 have hl:=(Qx.1 h);rw [XV (by rw [A1U]; exact hl.1)];obtain ⟨h1,rfl⟩:=hl;simp [bC]
theorem A3M (n:Nat):A6L [ACell.bool false] n=bC (List.replicate n false):=by
 simp [A6L,bC]
def B7i (es:List E) (a b:Nat):Bool:=decide (0<A1G es (min (a:Int) b) (max (a:Int) b))
def A3N (es:List E) (a:Nat) (R:List Bool) (b:Nat):List Bool:=if R.getD a false&&B7i es a b then R.set b true else R
def rRow (es:List E) (n a:Nat) (R:List Bool):List Bool:=(List.range n).foldl (A3N es a) R
def A70 (es:List E) (n:Nat) (R:List Bool):List Bool:=(List.range n).foldl (fun R a=>rRow es n a R) R
def A1w (es:List E) (n v k:Nat):List Bool:=(List.range k).foldl (fun R _=>A70 es n R) ((List.replicate n false).set v true)
def A8L (es:List E) (n v:Nat):List Bool:=A1w es n v n
theorem A0Y {α:Type} (f:α->Nat->α) (z:α) (k:Nat):(List.range (k+1)).foldl f z=f ((List.range k).foldl f z) k:=by rw [Jq,Qj8]; rfl
theorem A3i {f:List Bool->Nat->List Bool} (h: ∀R i,(f R i).length=R.length) (l:List Nat) (R:List Bool):(l.foldl f R).length=R.length:=by
 induction l generalizing R with
 | nil=>rfl
 | cons x xs ih=>rw [List.foldl_cons,ih,h]
theorem A6x (es:List E) (a:Nat) (R:List Bool) (b:Nat):(A3N es a R b).length=R.length:=by unfold A3N; split<;>simp
theorem B4K (es:List E) (n a:Nat) (R:List Bool):(rRow es n a R).length=R.length:=A3i (A6x es a) _ _
theorem B6i (es:List E) (n:Nat) (R:List Bool):(A70 es n R).length=R.length:=A3i (fun R a=>B4K es n a R) _ _
theorem A5o (es:List E) (n v k:Nat):(A1w es n v k).length=n:=by
 unfold A1w; rw [A3i (fun R _=>B6i es n R)]; simp
theorem B8x {es:List E} {a:Nat} {R:List Bool} {b:Nat} {x:Bool} (h:R[a]? =some x):A3N es a R b=if x=true∧0<A1G es (min (a:Int) b) (max (a:Int) b) then R.set b true else R:=by
 unfold A3N B7i;rw [Qz,h,Option.getD_some];cases x<;>simp
theorem A7P {R:List Bool} {n a:Nat} (h:R.length=n) (ha:a<n): ∃x,R[a]? =some x:=⟨_,Qq (by omega)⟩
theorem C5d {R:List Bool} {n:Nat} (h:R.length=n) {H:List Blk} {id:Nat} (hid:H[id]? =some (.box (bC R))):A0d H (.ref id 1 0 n n)=some (.slice (A4v R)):=by
 have e:A0d H (.ref id 1 0 n n)=A0b H (.ref id 1 0 n n):=rfl;have hf:=A4C (rows:=A4v R) (k:=1) (cap:=n) (fun r hr=>by obtain ⟨b,_,rfl⟩:=QJ.1 hr; rfl) (fun r hr=>by obtain ⟨b,_,rfl⟩:=QJ.1 hr; rfl) (by rw [A4O]; omega);have hfl:flatRows (A4v R)=bC R:=by
  simp only [flatRows,A4v,bC];clear e hf hid h
  induction R with
  | nil=>rfl
  | cons x xs ih=>simp only [Xk,List.flatten_cons,Jv,ih]; rfl
 rw [hfl,A4O,h] at hf;unfold A4B at hf;rw [e];simp only [A0b,hid,Blk.cells,Option.bind_some];split at hf
 ·rename_i hc;rw [if_pos hc];cases hm:(((bC R).drop 0).take (n*1)).mapM A0a with
  | none=>rw [hm] at hf; simp at hf
  | some ts=>
   rw [hm] at hf;simp only [Option.bind_some] at hf;split at hf
   ·simp at hf; simp [hf]
   ·simp at hf
 ·simp at hf
theorem B6j (g:G) (n v:Nat) (hc:checkG g=0) (hn:g.n=n) (hv:v<n) (hl:g.es.length<2^30):ACall Tryz.prog 145 [tG g,A0k v] (B0b (A8L g.es n v)):=by
 have hn12:=(A0h.1 hc).1;have hbe: ∀a b:Nat,ACall Tryz.prog 176 [tG g,A0k a,A0k b] (A0k (A1G g.es (min (a:Int) b) (max (a:Int) b))):=fun a b=>A5N g a b (by omega);obtain ⟨gn,es⟩:=g;simp only at hn hl hn12 hbe ⊢;subst hn;refine ACall.of_body Tryz.func145 rfl (by kernel_rfl) ?_;simp only [entry,Tryz.ntmps145,tG,A0k];refine zU ?_
 repeat' (first|((first|(refine zT ?_;intro K' hK')|(refine zG ?_ ?_<;>(try refine zH ?_)<;>intro hguard<;>(try exact zX)<;>try intro K' hK'))<;>((try simp+contextual only [go_sem,A3M,Int.toNat_natCast,Yj,A6w,A1U,Yx]);(repeat' first|(with_reducible refine hK' _ _ ?_;clear hK' K')|exact zY|with_reducible refine Qw8 ?_ ?_|(with_reducible intro hpath;try exact zP)|(refine hK' _ _ ?_;clear hK' K')|fail);try refine zS ?_))|(refine zE ?_;refine hK _ _ ?_;clear hK K)|(refine zN ?_;try refine zS ?_)|refine zA ?_|(refine zB ?_;intro K hK)|(refine zC ?_ ?_<;>(try refine zH ?_)<;>intro hcond<;>try exact zX)|fail)
 refine AWp.loopS (α:=Nat) 48 (fun k=>[(1,.c (.int .i64 (v:Int))),(2,.c (.ptr 0 0)),(5,.c (.ref 1 1 0 n n)),(6,.c (.int .i64 (k:Int)))]) (fun k=>[.box [.int .i64 (n:Int),.slice (A0f es) .none],.box (bC (A1w es n v k))]) (fun k=>k≤n) (fun k=>n-k) (0) (hk:=Weak.headL 2 48 [1,2,5,6] zW) (h0:=?_) (round:=fun k hI=>?_)
 ·exact Xj _
 ·have hk:k≤n:=hI;clear hI;by_cases hlt:k<n
  ·have hltI:(k:Int)<n:=by omega
   have hN:A1w es n v (k+1)=A70 es n (A1w es n v k):=A0Y _ _ _;have hlen:=A5o es n v k;generalize A1w es n v k=R at*;refine zR (zc @hltI Qw9) Qw9 Qw9 ?_;refine AWp.loopS (α:=Nat) 48 (fun a=>[(1,.c (.int .i64 (v:Int))),(2,.c (.ptr 0 0)),(5,.c (.ref 1 1 0 n n)),(6,.c (.int .i64 (k:Int))),(7,.c (.int .i64 (a:Int)))]) (fun a=>[.box [.int .i64 (n:Int),.slice (A0f es) .none],.box (bC ((List.range a).foldl (fun R a=>rRow es n a R) R))]) (fun a=>a≤n) (fun a=>n-a) (0) (hk:=Weak.headL 2 48 [1,2,5,6,7] zW) (h0:=?_) (round:=fun a hI=>?_)
   ·exact Xj _
   ·have ha:a≤n:=hI;clear hI;by_cases hlta:a<n
    ·have hltaI:(a:Int)<n:=by omega
     have hA:(List.range (a+1)).foldl (fun R a=>rRow es n a R) R=rRow es n a ((List.range a).foldl (fun R a=>rRow es n a R) R):=A0Y _ _ _;have hlen2:((List.range a).foldl (fun R a=>rRow es n a R) R).length=n:=by rw [A3i (fun R a=>B4K es n a R),hlen]
     generalize (List.range a).foldl (fun R a=>rRow es n a R) R=S at*;refine zR (zc @hltaI Qw9) Qw9 Qw9 ?_;refine AWp.loopS (α:=Nat) 48 (fun b=>[(1,.c (.int .i64 (v:Int))),(2,.c (.ptr 0 0)),(5,.c (.ref 1 1 0 n n)),(6,.c (.int .i64 (k:Int))),(7,.c (.int .i64 (a:Int))),(8,.c (.int .i64 (b:Int)))]) (fun b=>[.box [.int .i64 (n:Int),.slice (A0f es) .none],.box (bC ((List.range b).foldl (A3N es a) S))]) (fun b=>b≤n) (fun b=>n-b) (0) (hk:=Weak.headL 2 48 [1,2,5,6,7,8] zW) (h0:=?_) (round:=fun b hI=>?_)
     ·exact Xj _
     ·have hb:b≤n:=hI;clear hI;by_cases hltb:b<n
      ·have hltbI:(b:Int)<n:=by omega
       have hB:(List.range (b+1)).foldl (A3N es a) S=A3N es a ((List.range b).foldl (A3N es a) S) b:=A0Y _ _ _;have hlen3:((List.range b).foldl (A3N es a) S).length=n:=by rw [A3i (A6x es a),hlen2]
       generalize (List.range b).foldl (A3N es a) S=T at*;obtain ⟨x,hx⟩:=A7P hlen3 hlta;have hd:=B32 hx;have hst:=B8x (es:=es) (b:=b) hx;have hbb:=hbe a b;have hg:=B0c hx;generalize A1G es (min (a:Int) b) (max (a:Int) b)=c at*;cases x with
       | true=>
        by_cases hcp:0<c
        ·rw [if_pos ⟨rfl,hcp⟩] at hst;rw [hst] at hB;refine zR (zc @hltbI (zc @hd (zc @hg (zc @hcp (zc @A1U (zc @hlen3 (zc @A6w Qw9))))))) (zc hbb Qw9) Qw9 ?_;refine ⟨b+1,Weak.headF 2 48 [1,2,5,6,7,8] (zc @hB Qw9) zW,?_,?_⟩
         ·exact hltb
         ·omega
        ·rw [if_neg (by simp [hcp])] at hst;rw [hst] at hB;refine zR (zc @hltbI (zc @hd (zc @hg (zc @hcp (zc @A1U (zc @hlen3 Qw9)))))) (zc hbb Qw9) Qw9 ?_;refine ⟨b+1,Weak.headF 2 48 [1,2,5,6,7,8] (zc @hB Qw9) zW,?_,?_⟩
         ·exact hltb
         ·omega
       | false=>
        rw [if_neg (by simp)] at hst;rw [hst] at hB;refine zR (zc @hltbI (zc @hd (zc @hg (zc @A1U (zc @hlen3 Qw9))))) Qw9 Qw9 ?_;refine ⟨b+1,Weak.headF 2 48 [1,2,5,6,7,8] (zc @hB Qw9) zW,?_,?_⟩
        ·exact hltb
        ·omega
      ·have eb:b=n:=by omega
       subst eb;have hnl: ¬((b:Int)<b):=by omega
       have hA':(List.range (a+1)).foldl (fun R a=>rRow es b a R) R=(List.range b).foldl (A3N es a) S:=hA;refine zR (zc @hnl Qw9) Qw9 Qw9 ?_;refine ⟨a+1,Weak.headF 2 48 [1,2,5,6,7] (zc @hA' Qw9) zW,?_,?_⟩
       ·exact hlta
       ·omega
    ·have ea:a=n:=by omega
     subst ea;have hnl: ¬((a:Int)<a):=by omega
     have hN':A1w es a v (k+1)=(List.range a).foldl (fun R b=>rRow es a b R) R:=hN;refine zR (zc @hnl Qw9) Qw9 Qw9 ?_;refine ⟨k+1,Weak.headF 2 48 [1,2,5,6] (zc @hN' Qw9) zW,?_,?_⟩
     ·exact hlt
     ·omega
  ·have ek:k=n:=by omega
   subst ek;have hnl: ¬((k:Int)<k):=by omega
   have hlen:=A5o es k v k;refine zR (zc @hnl Qw9) Qw9 Qw9 ?_;have hR:=C5d hlen (H:=[Blk.box [.int .i64 (k:Int),.slice (A0f es) .none],Blk.box (bC (A1w es k v k))]) (id:=1) rfl;simp [A0y,A0x,Tryz.results145,A0s,A0t,toT,B0b,A8L,hR]
def A8M (R S:List Bool) (u:Nat):List Bool:=S.set u (S.getD u false||R.getD u false)
def orK (R S:List Bool) (k:Nat):List Bool:=(List.range k).foldl (A8M R) S
theorem B0d (R S:List Bool) (u:Nat):(A8M R S u).length=S.length:=by simp [A8M]
theorem B8y (R S:List Bool) (k:Nat):(orK R S k).length=S.length:=A3i (B0d R) _ _
def seenStep (es:List E) (n:Nat) (S:List Bool) (v:Nat):List Bool:=if S.getD v false then S else orK (A8L es n v) S n
def A6y (es:List E) (n v:Nat):List Bool:=(List.range v).foldl (seenStep es n) (List.replicate n false)
theorem B2c (es:List E) (n v:Nat):(A6y es n v).length=n:=by
 unfold A6y;rw [A3i (fun S v=>by unfold seenStep; split<;>simp [B8y])]; simp
def A1K (es:List E) (n:Nat):Nat->Nat
 | 0=>0
 | v+1=>if (A6y es n v).getD v false then A1K es n v else A1K es n v+1
theorem B2d (es:List E) (n v:Nat):A1K es n v≤v:=by
 induction v with
 | zero=>exact QQ _
 | succ v ih=>simp only [A1K]; split<;>omega
theorem B33 {R:List Bool} {i:Nat} {x:Bool} (h:R[i]? =some x):R.getD i false=x:=by rw [Qz,h]; rfl
theorem B4L (g:G) (n:Nat) (hc:checkG g=0) (hn:g.n=n) (hl:g.es.length<2^30):ACall Tryz.prog 88 [tG g] (A0k (A1K g.es n n)):=by
 have hn12:=(A0h.1 hc).1;have hre: ∀v:Nat,v<n->ACall Tryz.prog 145 [tG g,A0k v] (B0b (A8L g.es n v)):=fun v hv=>B6j g n v hc hn hv hl;obtain ⟨gn,es⟩:=g;simp only at hn hl hn12 hre ⊢;subst hn;refine ACall.of_body Tryz.func88 rfl (by kernel_rfl) ?_;simp only [entry,Tryz.ntmps88,tG];refine zU ?_
 repeat' (first|((first|(refine zT ?_;intro K' hK')|(refine zG ?_ ?_<;>(try refine zH ?_)<;>intro hguard<;>(try exact zX)<;>try intro K' hK'))<;>((try simp+contextual only [go_sem,A3M,Int.toNat_natCast,Yj,A6w,A1U,Yx]);(repeat' first|(with_reducible refine hK' _ _ ?_;clear hK' K')|exact zY|with_reducible refine Qw8 ?_ ?_|(with_reducible intro hpath;try exact zP)|(refine hK' _ _ ?_;clear hK' K')|fail);try refine zS ?_))|(refine zE ?_;refine hK _ _ ?_;clear hK K)|(refine zN ?_;try refine zS ?_)|refine zA ?_|(refine zB ?_;intro K hK)|(refine zC ?_ ?_<;>(try refine zH ?_)<;>intro hcond<;>try exact zX)|fail)
 refine AWp.loopS (α:=Nat) 46 (fun v=>[(1,.c (.ptr 0 0)),(2,.c (.int .i64 0)),(3,.c (.int .i64 (A1K es n v))),(4,.c (.ref 1 1 0 n n)),(5,.c (.int .i64 (v:Int)))]) (fun v=>[.box [.int .i64 (n:Int),.slice (A0f es) .none],.box (bC (A6y es n v))]) (fun v=>v≤n) (fun v=>n-v) (0) (hk:=Weak.headL 2 46 [1,2,3,4,5] zW) (h0:=?_) (round:=fun v hI=>?_)
 ·exact Xj _
 ·have hv:v≤n:=hI;clear hI;have hlen:=B2c es n v;have hpl:=B2d es n v;by_cases hlt:v<n
  ·have hltI:(v:Int)<n:=by omega
   have hS1:A6y es n (v+1)=seenStep es n (A6y es n v) v:=A0Y _ _ _;have hP1:A1K es n (v+1)=if (A6y es n v).getD v false then A1K es n v else A1K es n v+1:=rfl
   have hrv:=hre v hlt;have hrl:=A5o es n v n;generalize A1K es n v=p at*;generalize A6y es n v=S at*;obtain ⟨x,hx⟩:=A7P hlen hlt;unfold seenStep at hS1;rw [B33 hx] at hS1 hP1;have hd:=B32 hx;have hg:=B0c hx;cases x with
   | true=>
    rw [if_pos rfl] at hS1 hP1;refine zR (zc @hltI (zc @hd (zc @hg (zc @A1U (zc @hlen Qw9))))) Qw9 Qw9 ?_;refine ⟨v+1,Weak.headF 2 46 [1,2,3,4,5] (zc @hS1 (zc @hP1 Qw9)) zW,?_,?_⟩
    ·exact hlt
    ·omega
   | false=>
    rw [if_neg (by simp)] at hS1 hP1;change (A8L es n v).length=n at hrl;generalize A8L es n v=R at*;refine zR (zc @hltI (zc @hd (zc @hg (zc @A1U (zc @hlen Qw9))))) (zc hrv Qw9) Qw9 ?_;refine AWp.loopS (α:=Nat) 46 (fun u=>[(1,.c (.ptr 0 0)),(2,.c (.int .i64 0)),(3,.c (.int .i64 ((p:Int)+1))),(4,.c (.ref 1 1 0 n n)),(5,.c (.int .i64 (v:Int))),(6,.c (.slice (A4v R) .none)),(7,.c (.int .i64 (u:Int)))]) (fun u=>[.box [.int .i64 (n:Int),.slice (A0f es) .none],.box (bC (orK R S u))]) (fun u=>u≤n) (fun u=>n-u) (0) (hk:=Weak.headL 2 46 [1,2,3,4,5,6,7] zW) (h0:=?_) (round:=fun u hI=>?_)
    ·exact Xj _
    ·have hu:u≤n:=hI;clear hI;have hlen2:(orK R S u).length=n:=(B8y R S u).trans hlen;by_cases hltu:u<n
     ·have hltuI:(u:Int)<n:=by omega
      have hO:orK R S (u+1)=A8M R (orK R S u) u:=A0Y _ _ _;generalize orK R S u=T at*;obtain ⟨y,hy⟩:=A7P hlen2 hltu;obtain ⟨z,hz⟩:=A7P hrl hltu;unfold A8M at hO;rw [B33 hy,B33 hz] at hO;have hd2:=B32 hy;have hg2:=B0c hy;have hg3:=B8w hz;cases y with
      | true=>
       rw [Bool.true_or] at hO;refine zR (zc @hltuI (zc @hd2 (zc @hg2 (zc @hg3 (zc @A1U (zc @hlen2 (zc @A6w (zc @A4O (zc @hrl Qw9))))))))) Qw9 Qw9 ?_;refine ⟨u+1,Weak.headF 2 46 [1,2,3,4,5,6,7] (zc @hO Qw9) zW,?_,?_⟩
       ·exact hltu
       ·omega
      | false=>
       rw [Qq2] at hO;refine zR (zc @hltuI (zc @hd2 (zc @hg2 (zc @hg3 (zc @A1U (zc @hlen2 (zc @A6w (zc @A4O (zc @hrl Qw9))))))))) Qw9 Qw9 ?_;refine ⟨u+1,Weak.headF 2 46 [1,2,3,4,5,6,7] (zc @hO Qw9) zW,?_,?_⟩
       ·exact hltu
       ·omega
     ·have eu:u=n:=by omega
      subst eu;have hnl: ¬((u:Int)<u):=by omega
      refine zR (zc @hnl Qw9) Qw9 Qw9 ?_;refine ⟨v+1,Weak.headF 2 46 [1,2,3,4,5] (zc @hS1 (zc @hP1 Qw9)) zW,?_,?_⟩
      ·exact hlt
      ·omega
  ·have ev:v=n:=by omega
   subst ev;have hnl: ¬((v:Int)<v):=by omega
   refine zR (zc @hnl Qw9) Qw9 Qw9 ?_;simp [A0y,A0x,Blk.cells,ty,Tryz.results88,A0s,A0t,toT,A0d,A0b,A0c,A0a,A0k]
theorem B8z (g:G) (n:Nat) (hc:checkG g=0) (hn:g.n=n) (hl:g.es.length<2^30):ACall Tryz.prog 42 [tG g] (A0k ((endsL g.es).length-n+A1K g.es n n)):=by
 have hs:=A9y hl hc;have hz:=A32 g hs.s hs.es hs.m;have hs3:=hs.s;have hp:=B4L g n hc hn hl;have hpl:=B2d g.es n n;have hn12:=(A0h.1 hc).1;obtain ⟨gn,es⟩:=g;simp only at hn hl hn12 hz hp hs3 hpl ⊢;subst hn;refine ACall.of_body Tryz.func42 rfl (by kernel_rfl) ?_;simp only [entry,Tryz.ntmps42,tG];refine zU ?_;generalize (endsL es).length=l at*;generalize A1K es n n=p at*;refine zR Qw9 (zc hz (zc hp Qw9)) Qw9 ?_;simp [A0y,A0x,Blk.cells,ty,Tryz.results42,A0s,A0t,toT,A0d,A0b,A0c,A0a,A0k]
def connB (g:G):Bool:=decide (A1K g.es g.n.toNat g.n.toNat=1)
def A0r (g:G):Int:=if checkG g≠0 then checkG g else if connB g=true then 0 else 13
def ribE (r:R):Int:=if A0r r.g≠0 then A0r r.g else if (r.ar.length:Int)≠r.n then 8 else A52 (endsL r.es) (2*(endsL r.es).length) 0 r.ar
structure ROk (r:R):Prop where
 c:checkG r.g=0
 conn:connB r.g=true
 len:(r.ar.length:Int)=r.n
 l: ∀(i:Nat) l,r.ar[i]? =some l->LOk l (ownL (endsL r.es) (i:Int) (2*(endsL r.es).length))
theorem B4M {r:R} (h:ribE r=0):ROk r:=by
 unfold ribE A0r at h;by_cases h1:checkG r.g≠0
 ·simp only [if_pos h1] at h; omega
 ·rw [if_neg h1] at h;by_cases h2:connB r.g=true
  ·rw [if_pos h2] at h;by_cases h3:(r.ar.length:Int)≠r.n
   ·rw [if_neg (by omega),if_pos h3] at h; omega
   ·rw [if_neg (by omega),if_neg h3] at h;exact ⟨by omega,h2,by omega,fun i l hl=>by have:=A9Y h i l hl; rwa [Xy] at this⟩
  ·rw [if_neg h2] at h; omega
section
variable {r:R}
theorem A1I (hc:checkG r.g=0) {h:Nat} (hh:h<2*(endsL r.es).length):0≤atL (endsL r.es) h∧atL (endsL r.es) h<r.n:=by
 have hm:h / 2<(endsL r.es).length:=by omega
 have he:=ends_range hc (Xw (l:=endsL r.g.es) hm);unfold atL;rw [Qz,Qq hm];simp only [Option.getD_some];split
 ·exact he.1
 ·exact he.2
theorem ROk.row (hr:ROk r) {h:Nat} (hh:h<2*(endsL r.es).length): ∃l,r.ar[(atL (endsL r.es) h).toNat]? =some l∧r.ar.getD (atL (endsL r.es) h).toNat []=l∧LOk l (ownL (endsL r.es) (atL (endsL r.es) h) (2*(endsL r.es).length))∧(h:Int)∈l:=by
 have ha:=A1I hr.c hh;have hlt:(atL (endsL r.es) h).toNat<r.ar.length:=by have:=hr.len; omega
 have e:=Qq hlt;have hl:=hr.l _ _ e;rw [show (((atL (endsL r.es) h).toNat:Nat):Int)=atL (endsL r.es) h by omega] at hl;refine ⟨_,e,by rw [Qz,e]; rfl,hl,hl.sup _ (A1J.2 ⟨by omega,by omega,by simp⟩)⟩
theorem ROk.next (hr:ROk r) {h:Nat} (hh:h<2*(endsL r.es).length):0≤nextR (endsL r.es) r.ar h∧nextR (endsL r.es) r.ar h<(2*(endsL r.es).length:Nat)∧atL (endsL r.es) (nextR (endsL r.es) r.ar h).toNat=atL (endsL r.es) h:=by
 obtain ⟨l,h1,h2,h3,h4⟩:=hr.row hh;unfold nextR;rw [h2];exact A1J.1 (h3.sub _ (B8l h4))
theorem ROk.next_inj (hr:ROk r) {h k:Nat} (hh:h<2*(endsL r.es).length) (hk:k<2*(endsL r.es).length) (e:nextR (endsL r.es) r.ar h=nextR (endsL r.es) r.ar k):h=k:=by
 have a1:=(hr.next hh).2.2;have a2:=(hr.next hk).2.2;rw [e] at a1;have a3:=a1.symm.trans a2;obtain ⟨l,h1,h2,h3,h4⟩:=hr.row hh;obtain ⟨l',h1',h2',h3',h4'⟩:=hr.row hk;rw [a3,h1'] at h1;cases h1;unfold nextR at e;rw [h2,h2'] at e;have:=B8m h3.nd h4 h4' e;omega
end
theorem C1r (l:List Int) (v:Int) (hl:l.length<2^40):ACall Tryz.prog 101 [A0m l,A0k v] (A0z (decide (v∈l))):=by
 refine ACall.of_body Tryz.func101 rfl (by kernel_rfl) ?_;simp only [entry,Tryz.ntmps101,A0m,A0k];refine zU ?_;refine zR Qw9 Qw9 Qw9 ?_;refine AWp.loopS (α:=Nat) 18 (fun i=>[(0,.c (.slice (A0p l) .none)),(1,.c (.int .i64 v)),(5,.c (.int .i64 (i:Int)))]) (fun i=>[]) (fun i=>i≤l.length∧(v∈l↔v∈l.drop i)) (fun i=>l.length-i) (0) (hk:=Weak.headL 0 18 [0,1,5] zW) (h0:=?_) (round:=fun i hI=>?_)
 ·exact ⟨Xj _,Iff.rfl⟩
 ·obtain ⟨hi,hx⟩:=hI;by_cases hlt:i<l.length
  ·have e1:=A0u (Qq hlt);rw [XV hlt,Qw] at hx;generalize l[i]=x at*
   repeat' (first|((first|(refine zT ?_;intro K' hK')|(refine zG ?_ ?_<;>(try refine zH ?_)<;>intro hguard<;>(try exact zX)<;>try intro K' hK'))<;>((try simp+contextual only [go_sem,e1,A0e,Int.toNat_natCast,ZX]);(repeat' first|(with_reducible refine hK' _ _ ?_;clear hK' K')|exact zY|with_reducible refine Qw8 ?_ ?_|(with_reducible intro hpath;try exact zP)|(refine hK' _ _ ?_;clear hK' K')|fail);try refine zS ?_))|(refine zE ?_;refine hK _ _ ?_;clear hK K)|(refine zN ?_;try refine zS ?_)|refine zA ?_|(refine zB ?_;intro K hK)|(refine zC ?_ ?_<;>(try refine zH ?_)<;>intro hcond<;>try exact zX)|fail)
   ·have e:v∈l:=hx.2 (.inl (by omega));simp [A0y,A0x,Blk.cells,ty,Tryz.results101,A0s,A0t,toT,A0d,A0b,A0c,A0a,A0z,e]
   ·refine ⟨i+1,Weak.headN 0 18 [0,1,5] zW,?_,?_⟩
    ·refine ⟨hlt,hx.trans ⟨fun h=>h.resolve_left (by omega),.inr⟩⟩
    ·omega
  ·have ei:i=l.length:=by omega
   have e: ¬v∈l:=fun h=>by have:=hx.1 h; rw [ei,Vk] at this; cases this
   refine zR (zc @A0e (zc @ZX Qw9)) Qw9 Qw9 ?_;simp [A0y,A0x,Blk.cells,ty,Tryz.results101,A0s,A0t,toT,A0d,A0b,A0c,A0a,A0z,e]
def A4c (base n i:Nat):List (List ACap):=(List.range i).map fun j=>[.ref (j+base) 1 0 n n]
theorem B6k (base n i:Nat):A4c base n (i+1)=A4c base n i++[[.ref (i+base) 1 0 n n]]:=by simp [A4c,Jq]
theorem A8N (base n i:Nat):(A4c base n i).length=i:=by simp [A4c]
theorem C3x {base n i:Nat} {r:List ACap} (h:r∈A4c base n i):r.length=1:=by obtain ⟨j,_,rfl⟩:=QJ.1 h; rfl
theorem A0Q {base n i m:Nat} (hm:i+base≤m): ∀r,r∈A4c base n i-> ∀c,c∈r->B0D m c:=fun r hr c hc=>by
 obtain ⟨j,hj,rfl⟩:=QJ.1 hr;obtain rfl:=Zz.1 hc;have:=XQ.1 hj;show j+base<m;omega
theorem A8O {base n i j:Nat} (h:j<i):(A4c base n i)[j]? =some [.ref (j+base) 1 0 n n]:=by simp [A4c,h]
def rowB (r:List Int):Blk:= .box (iC r)
theorem B80 (m:Nat) (r:List Int):blkIn m (rowB r):=A0q (fun _=>Qw7)
theorem A09 {m i:Nat} {r:List Int}:A1s m (List.replicate i (rowB r)):=fun b hb=>by
 rw [(Wq.1 hb).2]; exact B80 m r
theorem A0A {m:Nat} {T:List (List Int)}:A1s m (T.map rowB):=fun b hb=>by
 obtain ⟨r,_,rfl⟩:=QJ.1 hb; exact B80 m r
theorem C1s {α:Type} (i:Nat) (x:α):List.replicate i x++[x]=List.replicate (i+1) x:=by rw [<-List.replicate_succ']
theorem C68 {a b:Nat} (h:a≠b):Operand.tmp a≠Operand.tmp b:=fun e=>h (by cases e; rfl)
theorem B81 (n:Nat) (hn:n≤12):ACallH Tryz.prog 194 [.box [.int .i64 0,.nils]] [.c (.int .i64 (n:Int))] (.box [.int .i64 0,.nils]:: .chain n 1::List.replicate n (rowB (List.replicate n 0))) (.c (.rows (A4c 2 n n) (.chain 1))):=by
 refine ACallH.of_body Tryz.func194 rfl (by kernel_rfl) ?_;simp only [entry,Tryz.ntmps194,List.length_cons,List.length_nil,Nat.reduceAdd,Nat.reduceSub,List.replicate_succ,List.replicate_zero,List.cons_append,List.nil_append];refine zR Qw9 Qw9 Qw9 ?_;refine AWp.weak (Weak.opens ((fun t f=>[f,f,f,t,f,f,f,f,f,f,f,f,f,f,f,f]) true false) 1 (by first | omega | simp)) ?_;simp only [A27,A8q,List.length_cons,List.length_nil,Xv,Nat.reduceAdd,List.cons_append,List.nil_append];refine AWp.asRows 3 1 rfl ?_;simp only [List.set_cons_succ,List.set_cons_zero];have e0:A4c 2 n 0=[]:=rfl;rw [<-e0];refine AWp.loopS (α:=Nat) 16 (fun i=>[(0,.c (.int .i64 (n:Int))),(3,.c (.rows (A4c 2 n i) (.chain 1))),(4,.c (.int .i64 (i:Int)))]) (fun i=>.box [.int .i64 0,.nils]:: .chain i 1::List.replicate i (rowB (List.replicate n 0))) (fun i=>i≤n) (fun i=>n-i) (0) (hk:=Weak.headL ((0)+2) 16 [0,3,4] (by (repeat' (first | exact A0n _ | exact A0v _ | exact A0i _ | refine Qw8 ?_ ?_ | refine A0j ?_ ?_ | refine A0l ?_ ?_ | refine A0g ?_ ?_ | exact Qw7 | exact A0Q (by omega) | exact A09 | exact A0A | (show _<_; omega) | exact A0q (fun _=>Qw7) | (intro c hc; cases hc; done) | (intro c hc; simp only [Qw,Qk,or_false] at hc; subst hc; first | exact Qw7 | exact A0Q (by omega) | exact A09 | exact A0A | (show _<_; omega)) | (intro c hc; simp only [Qw,Qk,or_false] at hc; rcases hc with rfl | rfl<;>first | exact Qw7 | exact A0Q (by omega) | exact A09 | exact A0A | (show _<_; omega)))))) (h0:=?_) (round:=fun i hI=>?_)
 ·exact Xj _
 ·have hi:i≤n:=hI;clear hI;by_cases hlt:i<n
  ·have hltI:(i:Int)<n:=by omega
   have hT:A4c 2 n (i+1)=A4c 2 n i++[[.ref (i+1+1) 1 0 n n]]:=B6k 2 n i;have hrb:Blk.box (iC (List.replicate n 0))=rowB (List.replicate n 0):=rfl;have hrs:=C1s i (rowB (List.replicate n 0))
   repeat' (first|((first|(refine zT ?_;intro K' hK')|(refine zG ?_ ?_<;>(try refine zH ?_)<;>intro hguard<;>(try exact zX)<;>try intro K' hK'))<;>((try simp+contextual only [go_sem,hltI,A1P,Int.toNat_natCast,hrb,hrs,Yx,A8N]);(repeat' first|(with_reducible refine hK' _ _ ?_;clear hK' K')|(with_reducible exact C3x (by assumption))|(exact C68 (by decide))|exact zY|with_reducible refine Qw8 ?_ ?_|(with_reducible intro hpath;try exact zP)|(refine hK' _ _ ?_;clear hK' K')|fail);try refine zS ?_))|(refine zE ?_;refine hK _ _ ?_;clear hK K)|(refine zN ?_;try refine zS ?_)|refine zA ?_|(refine zB ?_;intro K hK)|(refine zC ?_ ?_<;>(try refine zH ?_)<;>intro hcond<;>try exact zX)|fail)
   refine ⟨i+1,Weak.headN ((i+1)+2) 16 [0,3,4] (by (repeat' (first | exact A0n _ | exact A0v _ | exact A0i _ | refine Qw8 ?_ ?_ | refine A0j ?_ ?_ | refine A0l ?_ ?_ | refine A0g ?_ ?_ | exact Qw7 | exact A0Q (by omega) | exact A09 | exact A0A | (show _<_; omega) | exact A0q (fun _=>Qw7) | (intro c hc; cases hc; done) | (intro c hc; simp only [Qw,Qk,or_false] at hc; subst hc; first | exact Qw7 | exact A0Q (by omega) | exact A09 | exact A0A | (show _<_; omega)) | (intro c hc; simp only [Qw,Qk,or_false] at hc; rcases hc with rfl | rfl<;>first | exact Qw7 | exact A0Q (by omega) | exact A09 | exact A0A | (show _<_; omega))))) (e1:=by first|rfl|(simp [mask,A1C,hT,List.replicate_succ];done)|(simp [mask,A1C,hT,List.replicate_succ]<;>simp_all<;>omega)) (e2:=by first|rfl|(simp [mask,A1C,hT,List.replicate_succ];done)|(simp [mask,A1C,hT,List.replicate_succ]<;>simp_all<;>omega)),?_,?_⟩
   ·exact hlt
   ·omega
  ·have ei:i=n:=by omega
   subst ei;have hnl: ¬((i:Int)<i):=by omega
   refine zR (zc @hnl Qw9) Qw9 Qw9 ?_;simp [A4D,A1Y,A0s,A1X,Tryz.results194]
end Go.Proofs.YtdbdfkohpjefjaaGreat
