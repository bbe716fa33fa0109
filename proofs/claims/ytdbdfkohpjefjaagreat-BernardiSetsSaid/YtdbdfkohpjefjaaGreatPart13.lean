/- A part of the proof. -/
import Derived.Test.YtdbdfkohpjefjaaGreatPart09
set_option linter.all false
set_option maxHeartbeats 4000000
set_option maxRecDepth 100000
namespace Go.Proofs.YtdbdfkohpjefjaaGreat
open Go.Sp
def A2T (F:Int->Int) (l:List E) (x:E):List E:=if 0≤F x.a∧0≤F x.b then A17 l (min (F x.a) (F x.b)) (max (F x.a) (F x.b)) x.m else l
def B2X (F:Int->Int) (es:List E):List E:=es.foldl (A2T F) []
theorem B73 {F:Int->Int} {es:List E} {i:Nat} (h:i<es.length):B2X F (es.take (i+1))=A2T F (B2X F (es.take i)) es[i]:=by
 rw [XX h]; simp only [B2X,Qj3,List.foldl_cons,List.foldl_nil]
structure MovOk (k:Nat) (es:List E):Prop where
 d:distinctE es
 len:es.length≤k
 r: ∀e,e∈es->(0≤e.a∧e.a<12)∧(0≤e.b∧e.b<12)
theorem C0t {F:Int->Int} {k:Nat} {es:List E} (h:MovOk k es) {x:E} (h1:F x.a<12) (h2:F x.b<12):MovOk (k+1) (A2T F es x):=by
 unfold A2T;split
 ·refine ⟨A47 h.d,Yj (A93 ..) (by have:=h.len; omega),fun e he=> ?_⟩;rcases A4Y he with he | rfl
  ·exact h.r e he
  ·simp only; omega
 ·exact ⟨h.d,by have:=h.len; omega,h.r⟩
theorem C0u {k:Nat} {es:List E} (h:MovOk k es): ∀e,e∈mE es->(KShape.ints 2).ok e.1=true:=by
 intro e he;obtain ⟨x,hx,rfl⟩:=Xq.1 he;have:=h.r x hx;exact key_ok this.1 this.2
theorem C3P:mE []=[]:=rfl
theorem C0v (g:G) (n:Int) (f:Nat) (rows:List (List Tree)) (F:Int->Int) (hl:g.es.length<2^20)
  (hF: ∀x,x∈g.es->(ACall Tryz.prog f [A0m x.a,.t (.rptr [.slice rows])] (A0m (F x.a))∧F x.a<12)∧(ACall Tryz.prog f [A0m x.b,.t (.rptr [.slice rows])] (A0m (F x.b))∧F x.b<12)):
  ACall Tryz.prog 91 [tG g,A0m n,.t (.fn f [.rptr [.slice rows]])] (tG ⟨n,A2Q (B2X F g.es)⟩):=by
 refine ACall.of_body Tryz.func91 rfl (by kernel_rfl) ?_;simp only [entry,Tryz.ntmps91,tG,A0m];refine zU ?_;refine zR (zc @A01 Qw8) Qw8 Qw8 ?_;rw [<-C3P];refine AWp.loopS (α:=Nat) 44 (fun i=>[(1,.c (.int .i64 n)),(2,.c (.fn f [.tree (.rptr [.slice rows])])),(3,.c (.ptr 0 0)),(6,.c (.ptr 1 0)),(7,.c (.map 2)),(14,.c (.slice (A0f g.es) .none)),(15,.c (.int .i64 g.es.length)),(16,.c (.int .i64 (i:Int)))]) (fun i=>[.box [.int .i64 g.n,.slice (A0f g.es) .none],.box [.int .i64 0,.nils],.map (mE (B2X F (g.es.take i)))]) (fun i=>i≤g.es.length∧MovOk i (B2X F (g.es.take i))) (fun i=>g.es.length-i) (0) (hk:=Weak.headL 3 44 [1,2,3,6,7,14,15,16] zW) (h0:=?_) (round:=fun i hI=>?_)
 ·exact ⟨Xj _,List.Pairwise.nil,by simp [B2X],by simp [B2X]⟩
 ·obtain ⟨hi,hbag⟩:=hI;by_cases hlt:i<g.es.length
  ·have e0:=Qq hlt;have e1:=A1Y e0;have hnx:=B73 (F:=F) hlt;have hc:=hF _ (Xv hlt);have hst:=C0t (F:=F) hbag hc.1.2 hc.2.2;rw [<-hnx] at hst;have hks:=C0u hbag;generalize B2X F (g.es.take i)=es at*;generalize g.es[i]=x at*;have hk:0≤F x.a->0≤F x.b->(KShape.ints 2).ok (.ints [min (F x.a) (F x.b),max (F x.a) (F x.b)])=true:=fun h1 h2=>key_ok (by omega) (by omega)
   repeat' (first|((first|(refine zT ?_;intro K' hK')|(refine zG ?_ ?_<;>(try refine zH ?_)<;>intro hguard<;>(try exact zX)<;>try intro K' hK'))<;>((try simp+contextual only [go_sem,e1,Int.toNat_natCast,ZY,A14,B0y]);(repeat' first|(with_reducible refine hK' _ _ ?_;clear hK' K')|((with_reducible first|refine zK hc.1.1 ?_|refine zK hc.2.1 ?_|refine zK (B6Z _ _) ?_);try simp+contextual only [go_sem,e1,Int.toNat_natCast,ZY,A14,B0y])|(refine ⟨_,C3E,hk (by assumption) (by assumption),hks,?_⟩ ; simp+contextual only [go_sem,e1,Int.toNat_natCast,ZY,A14,B0y])|exact zY|with_reducible refine Qw7 ?_ ?_|(with_reducible intro hpath;try exact zP)|(refine hK' _ _ ?_;clear hK' K')|fail);try refine zS ?_))|(refine zE ?_;refine hK _ _ ?_;clear hK K)|(refine zN ?_;try refine zS ?_)|refine zA ?_|(refine zB ?_;intro K hK)|(refine zC ?_ ?_<;>(try refine zH ?_)<;>intro hcond<;>try exact zX)|fail)
   ·have e:A2T F es x=A17 es (min (F x.a) (F x.b)) (max (F x.a) (F x.b)) x.m:=if_pos ⟨by assumption,by assumption⟩;rw [e] at hnx;refine ⟨i+1,Weak.headF 3 44 [1,2,3,6,7,14,15,16] (zc @hnx (zc @B0y Qw8)) zW,?_,?_⟩
    ·exact ⟨hlt,hst⟩
    ·omega
   all_goals
    have e:A2T F es x=es:=if_neg (by omega);rw [e] at hnx;refine ⟨i+1,Weak.headF 3 44 [1,2,3,6,7,14,15,16] (zc @hnx Qw8) zW,?_,?_⟩
    ·exact ⟨hlt,hst⟩
    ·omega
  ·have ei:i=g.es.length:=by omega
   subst ei;rw [Zw] at hbag ⊢;generalize B2X F g.es=L at*;have hLl:=hbag.len
   repeat' (first|((first|(refine zT ?_;intro K' hK')|(refine zG ?_ ?_<;>(try refine zH ?_)<;>intro hguard<;>(try exact zX)<;>try intro K' hK'))<;>((try simp+contextual only [go_sem,ZY]);(repeat' first|(with_reducible refine hK' _ _ ?_;clear hK' K')|((with_reducible first|refine ⟨_,_,ACallX.h1 (B3X n L hbag.d (by omega)) (by with_unfolding_all rfl) (by with_unfolding_all rfl),?_⟩|refine ⟨_,ACallX.h1 (B3X n L hbag.d (by omega)) (by with_unfolding_all rfl) (by with_unfolding_all rfl),?_⟩);try simp+contextual only [go_sem,ZY])|exact zY|with_reducible refine Qw7 ?_ ?_|(with_reducible intro hpath;try exact zP)|(refine hK' _ _ ?_;clear hK' K')|fail);try refine zS ?_))|(refine zE ?_;refine hK _ _ ?_;clear hK K)|(refine zN ?_;try refine zS ?_)|refine zA ?_|(refine zB ?_;intro K hK)|(refine zC ?_ ?_<;>(try refine zH ?_)<;>intro hcond<;>try exact zX)|fail)
   simp [A0z,A0y,Blk.cells,ty,Tryz.results91,A0t,A0u,toT,A0d,A0b,A0c,A0a,A0m,tG,A0f]
theorem B74 (l:List Int) (v:Int):A2R l v<l.length:=by
 induction l with
 | nil=>simp [A2R]
 | cons x xs ih=>simp only [A2R,List.length_cons]; (repeat' split)<;>omega
theorem B4g {n:Int}: ∀{l:List Int} {u:Int},A4h n (some u) l=0->u<n->(l.length:Int)≤n-1-u
 | [],u,_,hu=>by simp; omega
 | v::l,u,h,hu=>by
  simp only [A4h,JY,exists_eq_left'] at h;split at h
  ·omega
  ·split at h
   ·omega
   ·have:=B4g h (by omega);simp only [List.length_cons]; omega
theorem B75 {n:Int} (hn:0≤n) {l:List Int} (h:A4h n none l=0):(l.length:Int)≤n:=by
 cases l with
 | nil=>simpa using hn
 | cons v l=>
  simp only [A4h,reduceCtorEq,false_and,exists_false,if_false] at h;split at h
  ·omega
  ·have:=B4g h (by omega);simp only [List.length_cons]; omega
theorem B76 (l:List Int) (v:Int) (hl:l.length<2^40):ACall Tryz.prog 92 [A0m v,.t (.rptr [.slice (A0o l)])] (A0m (A2R l v)):=by
 refine ACall.of_body Tryz.func92 rfl (by kernel_rfl) ?_;simp only [entry,Tryz.ntmps92,A0m];refine zU ?_;refine zR Qw8 (zc (B3Z l v hl) Qw8) Qw8 ?_;simp [A0z,A0y,Blk.cells,ty,Tryz.results92,A0t,A0u,toT,A0d,A0b,A0c,A0a,A0m]
noncomputable def indE (g:G) (l:List Int):Int:=if B2u g l≠0 then B2u g l else if l=[] then 14 else 0
noncomputable def B5z (g:G) (l:List Int):G:=if indE g l≠0 then ⟨0,[]⟩ else ⟨l.length,A2Q (B2X (A2R l) g.es)⟩
theorem A9E (g:G) (l:List Int) (hg:g.es.length<2^20) (hl:l.length<2^40):ACall Tryz.prog 45 [tG g,A0n l] (.tup [tG (B5z g l),A0m (indE g l)]):=by
 refine ACall.of_body Tryz.func45 rfl (by kernel_rfl) ?_;simp only [entry,Tryz.ntmps45,tG,A0n];refine zU ?_;refine AWp.seq_region (fun K hK=> ?_)
 repeat' (first|((first|(refine zT ?_;intro K' hK')|(refine zG ?_ ?_<;>(try refine zH ?_)<;>intro hguard<;>(try exact zX)<;>try intro K' hK'))<;>((try simp+contextual only [go_sem]);(repeat' first|(with_reducible refine hK' _ _ ?_;clear hK' K')|exact zY|with_reducible refine Qw7 ?_ ?_|(with_reducible intro hpath;try exact zP)|(refine hK' _ _ ?_;clear hK' K')|fail);try refine zS ?_))|(refine zE ?_;refine hK _ _ ?_;clear hK K)|(refine zN ?_;try refine zS ?_)|fail)
 refine AWp.freezeP 3 1 rfl rfl rfl ?_;simp only [List.set_cons_succ,List.set_cons_zero];by_cases hs0:B2u g l≠0
 ·have e:indE g l=B2u g l:=if_pos (by assumption);have e2:B5z g l=⟨0,[]⟩:=if_pos (by rw [e]; assumption)
  repeat' (first|((first|(refine zT ?_;intro K' hK')|(refine zG ?_ ?_<;>(try refine zH ?_)<;>intro hguard<;>(try exact zX)<;>try intro K' hK'))<;>((try simp+contextual only [go_sem,A0e]);(repeat' first|(with_reducible refine hK' _ _ ?_;clear hK' K')|(with_reducible refine zL (c:=A8w g l (by omega) hl) (q:=?_);try simp+contextual only [go_sem,A0e])|exact zY|with_reducible refine Qw7 ?_ ?_|(with_reducible intro hpath;try exact zP)|(refine hK' _ _ ?_;clear hK' K')|fail);try refine zS ?_))|(refine zE ?_;refine hK _ _ ?_;clear hK K)|(refine zN ?_;try refine zS ?_)|refine zA ?_|(refine zB ?_;intro K hK)|(refine zC ?_ ?_<;>(try refine zH ?_)<;>intro hcond<;>try exact zX)|fail)
  simp [A0z,A0y,Blk.cells,ty,Tryz.results45,A0t,A0u,toT,A0d,A0b,A0c,A0a,A0m,tG,e,e2,A0f]
 ·have hs0:B2u g l=0:=by omega
  by_cases el:l=[]
  ·have e:indE g l=14:=by unfold indE; rw [if_neg (by omega),if_pos el]
   have e2:B5z g l=⟨0,[]⟩:=if_pos (by rw [e]; decide);have el2:l.length=0:=by simp [el]
   repeat' (first|((first|(refine zT ?_;intro K' hK')|(refine zG ?_ ?_<;>(try refine zH ?_)<;>intro hguard<;>(try exact zX)<;>try intro K' hK'))<;>((try simp+contextual only [go_sem,A0e]);(repeat' first|(with_reducible refine hK' _ _ ?_;clear hK' K')|(with_reducible refine zL (c:=A8w g l (by omega) hl) (q:=?_);try simp+contextual only [go_sem,A0e])|exact zY|with_reducible refine Qw7 ?_ ?_|(with_reducible intro hpath;try exact zP)|(refine hK' _ _ ?_;clear hK' K')|fail);try refine zS ?_))|(refine zE ?_;refine hK _ _ ?_;clear hK K)|(refine zN ?_;try refine zS ?_)|refine zA ?_|(refine zB ?_;intro K hK)|(refine zC ?_ ?_<;>(try refine zH ?_)<;>intro hcond<;>try exact zX)|fail)
   simp [A0z,A0y,Blk.cells,ty,Tryz.results45,A0t,A0u,toT,A0d,A0b,A0c,A0a,A0m,tG,e,e2,A0f]
  ·have hc:checkG g=0:=by unfold B2u at hs0; split at hs0<;>omega
   have hn:=(A0j.1 hc).1;have hse:A4h g.n none l=0:=by unfold B2u at hs0; rwa [if_neg (by omega)] at hs0
   have hlen:=B75 (by omega) hse;have e:indE g l=0:=by unfold indE; rw [if_neg (by omega),if_neg el]
   have e2:B5z g l=⟨l.length,A2Q (B2X (A2R l) g.es)⟩:=if_neg (by rw [e]; decide);have hi: ∀v,A2R l v<12:=fun v=>by have:=B74 l v; omega
   have hl0:0<l.length:=Wj.2 el;have hmv:=C0v g l.length 92 (A0o l) (A2R l) hg (fun x _=>⟨⟨B76 l _ hl,hi _⟩,⟨B76 l _ hl,hi _⟩⟩)
   repeat' (first|((first|(refine zT ?_;intro K' hK')|(refine zG ?_ ?_<;>(try refine zH ?_)<;>intro hguard<;>(try exact zX)<;>try intro K' hK'))<;>((try simp+contextual only [go_sem,A0e]);(repeat' first|(with_reducible refine hK' _ _ ?_;clear hK' K')|((with_reducible first|refine zL (c:=A8w g l (by omega) hl) (q:=?_)|refine zK hmv ?_);try simp+contextual only [go_sem,A0e])|exact zY|with_reducible refine Qw7 ?_ ?_|(with_reducible intro hpath;try exact zP)|(refine hK' _ _ ?_;clear hK' K')|fail);try refine zS ?_))|(refine zE ?_;refine hK _ _ ?_;clear hK K)|(refine zN ?_;try refine zS ?_)|refine zA ?_|(refine zB ?_;intro K hK)|(refine zC ?_ ?_<;>(try refine zH ?_)<;>intro hcond<;>try exact zX)|fail)
   simp [A0z,A0y,Blk.cells,ty,Tryz.results45,A0t,A0u,toT,A0d,A0b,A0c,A0a,A0m,tG,e,e2,A0f]
instance ltE.dec:DecidableRel ltE:=fun x y=>by unfold ltE; infer_instance
def part:G:=⟨3,[⟨0,1,2⟩,⟨0,2,1⟩]⟩
structure RightG (g:G) (n:Nat):Prop where
 c:checkG g=0
 nn:g.n=n
 n1:1≤n
 n12:n≤12
 l:g.es.length≤40
 s:(endsL g.es).length≤400
theorem B2Y (g:G) (a b:Int) (hl:g.es.length<2^40):ACall Tryz.prog 176 [tG g,A0m a,A0m b] (A0m (A3v g.es (min a b) (max a b))):=by
 refine ACall.of_body Tryz.func176 rfl (by kernel_rfl) ?_;simp only [entry,Tryz.ntmps176,tG,A0m];refine zU ?_;refine zR Qw8 Qw8 Qw8 ?_;refine AWp.loopS (α:=Nat) 37 (fun i=>[(1,.c (.int .i64 a)),(2,.c (.int .i64 b)),(3,.c (.ptr 0 0)),(7,.c (.int .i64 (i:Int)))]) (fun i=>[.box [.int .i64 g.n,.slice (A0f g.es) .none]]) (fun i=>i≤g.es.length∧A3v g.es (min a b) (max a b)=A3v (g.es.drop i) (min a b) (max a b)) (fun i=>g.es.length-i) (0) (hk:=Weak.headL 1 37 [1,2,3,7] zW) (h0:=?_) (round:=fun i hI=>?_)
 ·exact ⟨Xj _,rfl⟩
 ·obtain ⟨hi,hx⟩:=hI;by_cases hlt:i<g.es.length
  ·have e1:=A1Y (Qq hlt);rw [Zy hlt,A3v] at hx;generalize hy:g.es[i]=x at*
   repeat' (first|((first|(refine zT ?_;intro K' hK')|(refine zG ?_ ?_<;>(try refine zH ?_)<;>intro hguard<;>(try exact zX)<;>try intro K' hK'))<;>((try simp+contextual only [go_sem,e1,A01,Int.toNat_natCast,ZY]);(repeat' first|(with_reducible refine hK' _ _ ?_;clear hK' K')|exact zY|with_reducible refine Qw7 ?_ ?_|(with_reducible intro hpath;try exact zP)|(refine hK' _ _ ?_;clear hK' K')|fail);try refine zS ?_))|(refine zE ?_;refine hK _ _ ?_;clear hK K)|(refine zN ?_;try refine zS ?_)|refine zA ?_|(refine zB ?_;intro K hK)|(refine zC ?_ ?_<;>(try refine zH ?_)<;>intro hcond<;>try exact zX)|fail)
   ·rw [if_pos ⟨by omega,by omega⟩] at hx;simp [A0z,A0y,Blk.cells,ty,Tryz.results176,A0t,A0u,toT,A0d,A0b,A0c,A0a,A0m,hx]
   all_goals
    rw [if_neg (by omega)] at hx;refine ⟨i+1,Weak.headN 1 37 [1,2,3,7] zW,?_,?_⟩
    ·exact ⟨hlt,hx⟩
    ·omega
  ·have ei:i=g.es.length:=by omega
   have h0:A3v g.es (min a b) (max a b)=0:=by rw [hx,ei,Qx3,A3v]
   refine zR (zc @A01 (zc @ZY Qw8)) Qw8 Qw8 ?_;simp [A0z,A0y,Blk.cells,ty,Tryz.results176,A0t,A0u,toT,A0d,A0b,A0c,A0a,A0m,h0]
theorem C0w {es:List E} (hm: ∀e,e∈es->1≤e.m) {a b:Int}:0<A3v es a b↔ ∃e,e∈es∧e.a=a∧e.b=b:=by
 induction es with
 | nil=>simp [A3v]
 | cons x xs ih=>
  have ih:=ih fun e he=>hm e (by simp [he]);simp only [A3v];split
  ·rename_i h;exact ⟨fun _=>⟨x,by simp,h.1,h.2⟩,fun _=>by have:=hm x (by simp); omega⟩
  ·rename_i h;rw [ih];constructor
   ·rintro ⟨e,he,h1,h2⟩; exact ⟨e,by simp [he],h1,h2⟩
   ·rintro ⟨e,he,h1,h2⟩;rcases Qw.1 he with rfl | he
    ·exact absurd ⟨h1,h2⟩ h
    ·exact ⟨e,he,h1,h2⟩
def bC (R:List Bool):List ACell:=R.map ACell.bool
def A4f (R:List Bool):List (List Tree):=R.map fun b=>[Tree.bool b]
def A9F (R:List Bool):TVal:= .t (.slice (A4f R))
attribute [go_sem] A9F
theorem A1P (R:List Bool):(bC R).length=R.length:=by simp [bC]
theorem A49 (R:List Bool):(A4f R).length=R.length:=by simp [A4f]
theorem A9G {R:List Bool} {i:Nat} {b:Bool} (h:R[i]? =some b):(bC R)[i]? =some (.bool b):=by simp [bC,h]
theorem B77 {R:List Bool} {i:Nat} {b:Bool} (h:R[i]? =some b):(A4f R)[i]? =some [.bool b]:=by simp [A4f,h]
theorem A6d (R:List Bool) (i:Nat) (b:Bool):(bC R).set i (.bool b)=bC (R.set i b):=by simp [bC,Qj0]
theorem B2Z {R:List Bool} {i:Nat} {b:Bool} (h:R[i]? =some b):(bC R).drop i= .bool b::(bC R).drop (i+1):=by
 have hl:=(Qx.1 h);rw [Zy (by rw [A1P]; exact hl.1)];obtain ⟨h1,rfl⟩:=hl;simp [bC]
theorem A38 (n:Nat):A60 [ACell.bool false] n=bC (List.replicate n false):=by
 simp [A60,bC]
def B6u (es:List E) (a b:Nat):Bool:=decide (0<A3v es (min (a:Int) b) (max (a:Int) b))
def A39 (es:List E) (a:Nat) (R:List Bool) (b:Nat):List Bool:=if R.getD a false&&B6u es a b then R.set b true else R
def rRow (es:List E) (n a:Nat) (R:List Bool):List Bool:=(List.range n).foldl (A39 es a) R
def A7g (es:List E) (n:Nat) (R:List Bool):List Bool:=(List.range n).foldl (fun R a=>rRow es n a R) R
def A1v (es:List E) (n v k:Nat):List Bool:=(List.range k).foldl (fun R _=>A7g es n R) ((List.replicate n false).set v true)
def A8x (es:List E) (n v:Nat):List Bool:=A1v es n v n
theorem A0W {α:Type} (f:α->Nat->α) (z:α) (k:Nat):(List.range (k+1)).foldl f z=f ((List.range k).foldl f z) k:=by rw [Ww,Qj3]; rfl
theorem A2U {f:List Bool->Nat->List Bool} (h: ∀R i,(f R i).length=R.length) (l:List Nat) (R:List Bool):(l.foldl f R).length=R.length:=by
 induction l generalizing R with
 | nil=>rfl
 | cons x xs ih=>rw [List.foldl_cons,ih,h]
theorem A6e (es:List E) (a:Nat) (R:List Bool) (b:Nat):(A39 es a R b).length=R.length:=by unfold A39; split<;>simp
theorem B4h (es:List E) (n a:Nat) (R:List Bool):(rRow es n a R).length=R.length:=A2U (A6e es a) _ _
theorem B50 (es:List E) (n:Nat) (R:List Bool):(A7g es n R).length=R.length:=A2U (fun R a=>B4h es n a R) _ _
theorem A4Z (es:List E) (n v k:Nat):(A1v es n v k).length=n:=by
 unfold A1v; rw [A2U (fun R _=>B50 es n R)]; simp
theorem B78 {es:List E} {a:Nat} {R:List Bool} {b:Nat} {x:Bool} (h:R[a]? =some x):A39 es a R b=if x=true∧0<A3v es (min (a:Int) b) (max (a:Int) b) then R.set b true else R:=by
 unfold A39 B6u;rw [Qz,h,Option.getD_some];cases x<;>simp
theorem A75 {R:List Bool} {n a:Nat} (h:R.length=n) (ha:a<n): ∃x,R[a]? =some x:=⟨_,Qq (by omega)⟩
theorem C3Q {R:List Bool} {n:Nat} (h:R.length=n) {H:List Blk} {id:Nat} (hid:H[id]? =some (.box (bC R))):A0d H (.ref id 1 0 n n)=some (.slice (A4f R)):=by
 have e:A0d H (.ref id 1 0 n n)=A0b H (.ref id 1 0 n n):=rfl;have hf:=A4x (rows:=A4f R) (k:=1) (cap:=n) (fun r hr=>by obtain ⟨b,_,rfl⟩:=Xq.1 hr; rfl) (fun r hr=>by obtain ⟨b,_,rfl⟩:=Xq.1 hr; rfl) (by rw [A49]; omega);have hfl:flatRows (A4f R)=bC R:=by
  simp only [flatRows,A4f,bC];clear e hf hid h
  induction R with
  | nil=>rfl
  | cons x xs ih=>simp only [Xy,List.flatten_cons,WY,ih]; rfl
 rw [hfl,A49,h] at hf;unfold A4w at hf;rw [e];simp only [A0b,hid,Blk.cells,Option.bind_some];split at hf
 ·rename_i hc;rw [if_pos hc];cases hm:(((bC R).drop 0).take (n*1)).mapM A0a with
  | none=>rw [hm] at hf; simp at hf
  | some ts=>
   rw [hm] at hf;simp only [Option.bind_some] at hf;split at hf
   ·simp at hf; simp [hf]
   ·simp at hf
 ·simp at hf
theorem B51 (g:G) (n v:Nat) (hc:checkG g=0) (hn:g.n=n) (hv:v<n) (hl:g.es.length<2^30):ACall Tryz.prog 145 [tG g,A0m v] (A9F (A8x g.es n v)):=by
 have hn12:=(A0j.1 hc).1;have hbe: ∀a b:Nat,ACall Tryz.prog 176 [tG g,A0m a,A0m b] (A0m (A3v g.es (min (a:Int) b) (max (a:Int) b))):=fun a b=>B2Y g a b (by omega);obtain ⟨gn,es⟩:=g;simp only at hn hl hn12 hbe ⊢;subst hn;refine ACall.of_body Tryz.func145 rfl (by kernel_rfl) ?_;simp only [entry,Tryz.ntmps145,tG,A0m];refine zU ?_
 repeat' (first|((first|(refine zT ?_;intro K' hK')|(refine zG ?_ ?_<;>(try refine zH ?_)<;>intro hguard<;>(try exact zX)<;>try intro K' hK'))<;>((try simp+contextual only [go_sem,A38,Int.toNat_natCast,Yz,A6d,A1P,Yq]);(repeat' first|(with_reducible refine hK' _ _ ?_;clear hK' K')|exact zY|with_reducible refine Qw7 ?_ ?_|(with_reducible intro hpath;try exact zP)|(refine hK' _ _ ?_;clear hK' K')|fail);try refine zS ?_))|(refine zE ?_;refine hK _ _ ?_;clear hK K)|(refine zN ?_;try refine zS ?_)|refine zA ?_|(refine zB ?_;intro K hK)|(refine zC ?_ ?_<;>(try refine zH ?_)<;>intro hcond<;>try exact zX)|fail)
 refine AWp.loopS (α:=Nat) 48 (fun k=>[(1,.c (.int .i64 (v:Int))),(2,.c (.ptr 0 0)),(5,.c (.ref 1 1 0 n n)),(6,.c (.int .i64 (k:Int)))]) (fun k=>[.box [.int .i64 (n:Int),.slice (A0f es) .none],.box (bC (A1v es n v k))]) (fun k=>k≤n) (fun k=>n-k) (0) (hk:=Weak.headL 2 48 [1,2,5,6] zW) (h0:=?_) (round:=fun k hI=>?_)
 ·exact Xj _
 ·have hk:k≤n:=hI;clear hI;by_cases hlt:k<n
  ·have hltI:(k:Int)<n:=by omega
   have hN:A1v es n v (k+1)=A7g es n (A1v es n v k):=A0W _ _ _;have hlen:=A4Z es n v k;generalize A1v es n v k=R at*;refine zR (zc @hltI Qw8) Qw8 Qw8 ?_;refine AWp.loopS (α:=Nat) 48 (fun a=>[(1,.c (.int .i64 (v:Int))),(2,.c (.ptr 0 0)),(5,.c (.ref 1 1 0 n n)),(6,.c (.int .i64 (k:Int))),(7,.c (.int .i64 (a:Int)))]) (fun a=>[.box [.int .i64 (n:Int),.slice (A0f es) .none],.box (bC ((List.range a).foldl (fun R a=>rRow es n a R) R))]) (fun a=>a≤n) (fun a=>n-a) (0) (hk:=Weak.headL 2 48 [1,2,5,6,7] zW) (h0:=?_) (round:=fun a hI=>?_)
   ·exact Xj _
   ·have ha:a≤n:=hI;clear hI;by_cases hlta:a<n
    ·have hltaI:(a:Int)<n:=by omega
     have hA:(List.range (a+1)).foldl (fun R a=>rRow es n a R) R=rRow es n a ((List.range a).foldl (fun R a=>rRow es n a R) R):=A0W _ _ _;have hlen2:((List.range a).foldl (fun R a=>rRow es n a R) R).length=n:=by rw [A2U (fun R a=>B4h es n a R),hlen]
     generalize (List.range a).foldl (fun R a=>rRow es n a R) R=S at*;refine zR (zc @hltaI Qw8) Qw8 Qw8 ?_;refine AWp.loopS (α:=Nat) 48 (fun b=>[(1,.c (.int .i64 (v:Int))),(2,.c (.ptr 0 0)),(5,.c (.ref 1 1 0 n n)),(6,.c (.int .i64 (k:Int))),(7,.c (.int .i64 (a:Int))),(8,.c (.int .i64 (b:Int)))]) (fun b=>[.box [.int .i64 (n:Int),.slice (A0f es) .none],.box (bC ((List.range b).foldl (A39 es a) S))]) (fun b=>b≤n) (fun b=>n-b) (0) (hk:=Weak.headL 2 48 [1,2,5,6,7,8] zW) (h0:=?_) (round:=fun b hI=>?_)
     ·exact Xj _
     ·have hb:b≤n:=hI;clear hI;by_cases hltb:b<n
      ·have hltbI:(b:Int)<n:=by omega
       have hB:(List.range (b+1)).foldl (A39 es a) S=A39 es a ((List.range b).foldl (A39 es a) S) b:=A0W _ _ _;have hlen3:((List.range b).foldl (A39 es a) S).length=n:=by rw [A2U (A6e es a),hlen2]
       generalize (List.range b).foldl (A39 es a) S=T at*;obtain ⟨x,hx⟩:=A75 hlen3 hlta;have hd:=B2Z hx;have hst:=B78 (es:=es) (b:=b) hx;have hbb:=hbe a b;have hg:=A9G hx;generalize A3v es (min (a:Int) b) (max (a:Int) b)=c at*;cases x with
       | true=>
        by_cases hcp:0<c
        ·rw [if_pos ⟨rfl,hcp⟩] at hst;rw [hst] at hB;refine zR (zc @hltbI (zc @hd (zc @hg (zc @hcp (zc @A1P (zc @hlen3 (zc @A6d Qw8))))))) (zc hbb Qw8) Qw8 ?_;refine ⟨b+1,Weak.headF 2 48 [1,2,5,6,7,8] (zc @hB Qw8) zW,?_,?_⟩
         ·exact hltb
         ·omega
        ·rw [if_neg (by simp [hcp])] at hst;rw [hst] at hB;refine zR (zc @hltbI (zc @hd (zc @hg (zc @hcp (zc @A1P (zc @hlen3 Qw8)))))) (zc hbb Qw8) Qw8 ?_;refine ⟨b+1,Weak.headF 2 48 [1,2,5,6,7,8] (zc @hB Qw8) zW,?_,?_⟩
         ·exact hltb
         ·omega
       | false=>
        rw [if_neg (by simp)] at hst;rw [hst] at hB;refine zR (zc @hltbI (zc @hd (zc @hg (zc @A1P (zc @hlen3 Qw8))))) Qw8 Qw8 ?_;refine ⟨b+1,Weak.headF 2 48 [1,2,5,6,7,8] (zc @hB Qw8) zW,?_,?_⟩
        ·exact hltb
        ·omega
      ·have eb:b=n:=by omega
       subst eb;have hnl: ¬((b:Int)<b):=by omega
       have hA':(List.range (a+1)).foldl (fun R a=>rRow es b a R) R=(List.range b).foldl (A39 es a) S:=hA;refine zR (zc @hnl Qw8) Qw8 Qw8 ?_;refine ⟨a+1,Weak.headF 2 48 [1,2,5,6,7] (zc @hA' Qw8) zW,?_,?_⟩
       ·exact hlta
       ·omega
    ·have ea:a=n:=by omega
     subst ea;have hnl: ¬((a:Int)<a):=by omega
     have hN':A1v es a v (k+1)=(List.range a).foldl (fun R b=>rRow es a b R) R:=hN;refine zR (zc @hnl Qw8) Qw8 Qw8 ?_;refine ⟨k+1,Weak.headF 2 48 [1,2,5,6] (zc @hN' Qw8) zW,?_,?_⟩
     ·exact hlt
     ·omega
  ·have ek:k=n:=by omega
   subst ek;have hnl: ¬((k:Int)<k):=by omega
   have hlen:=A4Z es k v k;refine zR (zc @hnl Qw8) Qw8 Qw8 ?_;have hR:=C3Q hlen (H:=[Blk.box [.int .i64 (k:Int),.slice (A0f es) .none],Blk.box (bC (A1v es k v k))]) (id:=1) rfl;simp [A0z,A0y,Tryz.results145,A0t,A0u,toT,A9F,A8x,hR]
def A8y (R S:List Bool) (u:Nat):List Bool:=S.set u (S.getD u false||R.getD u false)
def orK (R S:List Bool) (k:Nat):List Bool:=(List.range k).foldl (A8y R) S
theorem A9H (R S:List Bool) (u:Nat):(A8y R S u).length=S.length:=by simp [A8y]
theorem B79 (R S:List Bool) (k:Nat):(orK R S k).length=S.length:=A2U (A9H R) _ _
def seenStep (es:List E) (n:Nat) (S:List Bool) (v:Nat):List Bool:=if S.getD v false then S else orK (A8x es n v) S n
def A6f (es:List E) (n v:Nat):List Bool:=(List.range v).foldl (seenStep es n) (List.replicate n false)
theorem B1J (es:List E) (n v:Nat):(A6f es n v).length=n:=by
 unfold A6f;rw [A2U (fun S v=>by unfold seenStep; split<;>simp [B79])]; simp
def A1J (es:List E) (n:Nat):Nat->Nat
 | 0=>0
 | v+1=>if (A6f es n v).getD v false then A1J es n v else A1J es n v+1
theorem B1K (es:List E) (n v:Nat):A1J es n v≤v:=by
 induction v with
 | zero=>exact QQ _
 | succ v ih=>simp only [A1J]; split<;>omega
theorem B3a {R:List Bool} {i:Nat} {x:Bool} (h:R[i]? =some x):R.getD i false=x:=by rw [Qz,h]; rfl
theorem B4i (g:G) (n:Nat) (hc:checkG g=0) (hn:g.n=n) (hl:g.es.length<2^30):ACall Tryz.prog 88 [tG g] (A0m (A1J g.es n n)):=by
 have hn12:=(A0j.1 hc).1;have hre: ∀v:Nat,v<n->ACall Tryz.prog 145 [tG g,A0m v] (A9F (A8x g.es n v)):=fun v hv=>B51 g n v hc hn hv hl;obtain ⟨gn,es⟩:=g;simp only at hn hl hn12 hre ⊢;subst hn;refine ACall.of_body Tryz.func88 rfl (by kernel_rfl) ?_;simp only [entry,Tryz.ntmps88,tG];refine zU ?_
 repeat' (first|((first|(refine zT ?_;intro K' hK')|(refine zG ?_ ?_<;>(try refine zH ?_)<;>intro hguard<;>(try exact zX)<;>try intro K' hK'))<;>((try simp+contextual only [go_sem,A38,Int.toNat_natCast,Yz,A6d,A1P,Yq]);(repeat' first|(with_reducible refine hK' _ _ ?_;clear hK' K')|exact zY|with_reducible refine Qw7 ?_ ?_|(with_reducible intro hpath;try exact zP)|(refine hK' _ _ ?_;clear hK' K')|fail);try refine zS ?_))|(refine zE ?_;refine hK _ _ ?_;clear hK K)|(refine zN ?_;try refine zS ?_)|refine zA ?_|(refine zB ?_;intro K hK)|(refine zC ?_ ?_<;>(try refine zH ?_)<;>intro hcond<;>try exact zX)|fail)
 refine AWp.loopS (α:=Nat) 46 (fun v=>[(1,.c (.ptr 0 0)),(2,.c (.int .i64 0)),(3,.c (.int .i64 (A1J es n v))),(4,.c (.ref 1 1 0 n n)),(5,.c (.int .i64 (v:Int)))]) (fun v=>[.box [.int .i64 (n:Int),.slice (A0f es) .none],.box (bC (A6f es n v))]) (fun v=>v≤n) (fun v=>n-v) (0) (hk:=Weak.headL 2 46 [1,2,3,4,5] zW) (h0:=?_) (round:=fun v hI=>?_)
 ·exact Xj _
 ·have hv:v≤n:=hI;clear hI;have hlen:=B1J es n v;have hpl:=B1K es n v;by_cases hlt:v<n
  ·have hltI:(v:Int)<n:=by omega
   have hS1:A6f es n (v+1)=seenStep es n (A6f es n v) v:=A0W _ _ _;have hP1:A1J es n (v+1)=if (A6f es n v).getD v false then A1J es n v else A1J es n v+1:=rfl
   have hrv:=hre v hlt;have hrl:=A4Z es n v n;generalize A1J es n v=p at*;generalize A6f es n v=S at*;obtain ⟨x,hx⟩:=A75 hlen hlt;unfold seenStep at hS1;rw [B3a hx] at hS1 hP1;have hd:=B2Z hx;have hg:=A9G hx;cases x with
   | true=>
    rw [if_pos rfl] at hS1 hP1;refine zR (zc @hltI (zc @hd (zc @hg (zc @A1P (zc @hlen Qw8))))) Qw8 Qw8 ?_;refine ⟨v+1,Weak.headF 2 46 [1,2,3,4,5] (zc @hS1 (zc @hP1 Qw8)) zW,?_,?_⟩
    ·exact hlt
    ·omega
   | false=>
    rw [if_neg (by simp)] at hS1 hP1;change (A8x es n v).length=n at hrl;generalize A8x es n v=R at*;refine zR (zc @hltI (zc @hd (zc @hg (zc @A1P (zc @hlen Qw8))))) (zc hrv Qw8) Qw8 ?_;refine AWp.loopS (α:=Nat) 46 (fun u=>[(1,.c (.ptr 0 0)),(2,.c (.int .i64 0)),(3,.c (.int .i64 ((p:Int)+1))),(4,.c (.ref 1 1 0 n n)),(5,.c (.int .i64 (v:Int))),(6,.c (.slice (A4f R) .none)),(7,.c (.int .i64 (u:Int)))]) (fun u=>[.box [.int .i64 (n:Int),.slice (A0f es) .none],.box (bC (orK R S u))]) (fun u=>u≤n) (fun u=>n-u) (0) (hk:=Weak.headL 2 46 [1,2,3,4,5,6,7] zW) (h0:=?_) (round:=fun u hI=>?_)
    ·exact Xj _
    ·have hu:u≤n:=hI;clear hI;have hlen2:(orK R S u).length=n:=(B79 R S u).trans hlen;by_cases hltu:u<n
     ·have hltuI:(u:Int)<n:=by omega
      have hO:orK R S (u+1)=A8y R (orK R S u) u:=A0W _ _ _;generalize orK R S u=T at*;obtain ⟨y,hy⟩:=A75 hlen2 hltu;obtain ⟨z,hz⟩:=A75 hrl hltu;unfold A8y at hO;rw [B3a hy,B3a hz] at hO;have hd2:=B2Z hy;have hg2:=A9G hy;have hg3:=B77 hz;cases y with
      | true=>
       rw [Bool.true_or] at hO;refine zR (zc @hltuI (zc @hd2 (zc @hg2 (zc @hg3 (zc @A1P (zc @hlen2 (zc @A6d (zc @A49 (zc @hrl Qw8))))))))) Qw8 Qw8 ?_;refine ⟨u+1,Weak.headF 2 46 [1,2,3,4,5,6,7] (zc @hO Qw8) zW,?_,?_⟩
       ·exact hltu
       ·omega
      | false=>
       rw [JV] at hO;refine zR (zc @hltuI (zc @hd2 (zc @hg2 (zc @hg3 (zc @A1P (zc @hlen2 (zc @A6d (zc @A49 (zc @hrl Qw8))))))))) Qw8 Qw8 ?_;refine ⟨u+1,Weak.headF 2 46 [1,2,3,4,5,6,7] (zc @hO Qw8) zW,?_,?_⟩
       ·exact hltu
       ·omega
     ·have eu:u=n:=by omega
      subst eu;have hnl: ¬((u:Int)<u):=by omega
      refine zR (zc @hnl Qw8) Qw8 Qw8 ?_;refine ⟨v+1,Weak.headF 2 46 [1,2,3,4,5] (zc @hS1 (zc @hP1 Qw8)) zW,?_,?_⟩
      ·exact hlt
      ·omega
  ·have ev:v=n:=by omega
   subst ev;have hnl: ¬((v:Int)<v):=by omega
   refine zR (zc @hnl Qw8) Qw8 Qw8 ?_;simp [A0z,A0y,Blk.cells,ty,Tryz.results88,A0t,A0u,toT,A0d,A0b,A0c,A0a,A0m]
theorem B7A (g:G) (n:Nat) (hc:checkG g=0) (hn:g.n=n) (hl:g.es.length<2^30):ACall Tryz.prog 42 [tG g] (A0m ((endsL g.es).length-n+A1J g.es n n)):=by
 have hs:=B5p hl hc;have hz:=A70 g hs.s hs.es hs.m;have hs3:=hs.s;have hp:=B4i g n hc hn hl;have hpl:=B1K g.es n n;have hn12:=(A0j.1 hc).1;obtain ⟨gn,es⟩:=g;simp only at hn hl hn12 hz hp hs3 hpl ⊢;subst hn;refine ACall.of_body Tryz.func42 rfl (by kernel_rfl) ?_;simp only [entry,Tryz.ntmps42,tG];refine zU ?_;generalize (endsL es).length=l at*;generalize A1J es n n=p at*;refine zR Qw8 (zc hz (zc hp Qw8)) Qw8 ?_;simp [A0z,A0y,Blk.cells,ty,Tryz.results42,A0t,A0u,toT,A0d,A0b,A0c,A0a,A0m]
end Go.Proofs.YtdbdfkohpjefjaaGreat
