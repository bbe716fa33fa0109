/- A part of the proof. -/
import Derived.Test.YtdbdfkohpjefjaaGreatPart09
set_option linter.all false
set_option maxHeartbeats 4000000
set_option maxRecDepth 100000
namespace Go.Proofs.YtdbdfkohpjefjaaGreat
open Go.Sp
def A2O (F:Int->Int) (l:List E) (x:E):List E:=if 0≤F x.a∧0≤F x.b then A19 l (min (F x.a) (F x.b)) (max (F x.a) (F x.b)) x.m else l
def B2V (F:Int->Int) (es:List E):List E:=es.foldl (A2O F) []
theorem B7t {F:Int->Int} {es:List E} {i:Nat} (h:i<es.length):B2V F (es.take (i+1))=A2O F (B2V F (es.take i)) es[i]:=by
 rw [XQ h]; simp only [B2V,Qz7,List.foldl_cons,List.foldl_nil]
structure MovOk (k:Nat) (es:List E):Prop where
 d:distinctE es
 len:es.length≤k
 r: ∀e,e∈es->(0≤e.a∧e.a<12)∧(0≤e.b∧e.b<12)
theorem C0b {F:Int->Int} {k:Nat} {es:List E} (h:MovOk k es) {x:E} (h1:F x.a<12) (h2:F x.b<12):MovOk (k+1) (A2O F es x):=by
 unfold A2O;split
 ·refine ⟨A4z h.d,Yj (A95 ..) (by have:=h.len; omega),fun e he=> ?_⟩;rcases A4P he with he | rfl
  ·exact h.r e he
  ·simp only; omega
 ·exact ⟨h.d,by have:=h.len; omega,h.r⟩
theorem C0c {k:Nat} {es:List E} (h:MovOk k es): ∀e,e∈mE es->(KShape.ints 2).ok e.1=true:=by
 intro e he;obtain ⟨x,hx,rfl⟩:=Xq.1 he;have:=h.r x hx;exact key_ok this.1 this.2
theorem C30:mE []=[]:=rfl
theorem C0d (g:G) (n:Int) (f:Nat) (rows:List (List Tree)) (F:Int->Int) (hl:g.es.length<2^20)
  (hF: ∀x,x∈g.es->(ACall Tryz.prog f [A0k x.a,.t (.rptr [.slice rows])] (A0k (F x.a))∧F x.a<12)∧(ACall Tryz.prog f [A0k x.b,.t (.rptr [.slice rows])] (A0k (F x.b))∧F x.b<12)):
  ACall Tryz.prog 91 [tG g,A0k n,.t (.fn f [.rptr [.slice rows]])] (tG ⟨n,A2K (B2V F g.es)⟩):=by
 refine ACall.of_body Tryz.func91 rfl (by kernel_rfl) ?_;simp only [entry,Tryz.ntmps91,tG,A0k];refine zU ?_;refine zR (zc @A00 Qw6) Qw6 Qw6 ?_;rw [<-C30];refine AWp.loopS (α:=Nat) 44 (fun i=>[(1,.c (.int .i64 n)),(2,.c (.fn f [.tree (.rptr [.slice rows])])),(3,.c (.ptr 0 0)),(6,.c (.ptr 1 0)),(7,.c (.map 2)),(14,.c (.slice (A0f g.es) .none)),(15,.c (.int .i64 g.es.length)),(16,.c (.int .i64 (i:Int)))]) (fun i=>[.box [.int .i64 g.n,.slice (A0f g.es) .none],.box [.int .i64 0,.nils],.map (mE (B2V F (g.es.take i)))]) (fun i=>i≤g.es.length∧MovOk i (B2V F (g.es.take i))) (fun i=>g.es.length-i) (0) (hk:=A0r.headL 3 44 [1,2,3,6,7,14,15,16] zW) (h0:=?_) (round:=fun i hI=>?_)
 ·exact ⟨Xj _,List.Pairwise.nil,by simp [B2V],by simp [B2V]⟩
 ·obtain ⟨hi,hbag⟩:=hI;by_cases hlt:i<g.es.length
  ·have e0:=Qq hlt;have e1:=A1Y e0;have hnx:=B7t (F:=F) hlt;have hc:=hF _ (Xw hlt);have hst:=C0b (F:=F) hbag hc.1.2 hc.2.2;rw [<-hnx] at hst;have hks:=C0c hbag;generalize B2V F (g.es.take i)=es at*;generalize g.es[i]=x at*;have hk:0≤F x.a->0≤F x.b->(KShape.ints 2).ok (.ints [min (F x.a) (F x.b),max (F x.a) (F x.b)])=true:=fun h1 h2=>key_ok (by omega) (by omega)
   repeat' (first|((first|(refine zT ?_;intro K' hK')|(refine zG ?_ ?_<;>(try refine zH ?_)<;>intro hguard<;>(try exact zX)<;>try intro K' hK'))<;>((try simp+contextual only [go_sem,e1,Int.toNat_natCast,ZQ,A17,B0w]);(repeat' first|(with_reducible refine hK' _ _ ?_;clear hK' K')|((with_reducible first|refine zK hc.1.1 ?_|refine zK hc.2.1 ?_|refine zK (B6O _ _) ?_);try simp+contextual only [go_sem,e1,Int.toNat_natCast,ZQ,A17,B0w])|(refine ⟨_,C3s,hk (by assumption) (by assumption),hks,?_⟩ ; simp+contextual only [go_sem,e1,Int.toNat_natCast,ZQ,A17,B0w])|exact zY|with_reducible refine Qw5 ?_ ?_|(with_reducible intro hpath;try exact zP)|(refine hK' _ _ ?_;clear hK' K')|fail);try refine zS ?_))|(refine zE ?_;refine hK _ _ ?_;clear hK K)|(refine zN ?_;try refine zS ?_)|refine zA ?_|(refine zB ?_;intro K hK)|(refine zC ?_ ?_<;>(try refine zH ?_)<;>intro hcond<;>try exact zX)|fail)
   ·have e:A2O F es x=A19 es (min (F x.a) (F x.b)) (max (F x.a) (F x.b)) x.m:=if_pos ⟨by assumption,by assumption⟩;rw [e] at hnx;refine ⟨i+1,A0r.headF 3 44 [1,2,3,6,7,14,15,16] (zc @hnx (zc @B0w Qw6)) zW,?_,?_⟩
    ·exact ⟨hlt,hst⟩
    ·omega
   all_goals
    have e:A2O F es x=es:=if_neg (by omega);rw [e] at hnx;refine ⟨i+1,A0r.headF 3 44 [1,2,3,6,7,14,15,16] (zc @hnx Qw6) zW,?_,?_⟩
    ·exact ⟨hlt,hst⟩
    ·omega
  ·have ei:i=g.es.length:=by omega
   subst ei;rw [Zk] at hbag ⊢;generalize B2V F g.es=L at*;have hLl:=hbag.len
   repeat' (first|((first|(refine zT ?_;intro K' hK')|(refine zG ?_ ?_<;>(try refine zH ?_)<;>intro hguard<;>(try exact zX)<;>try intro K' hK'))<;>((try simp+contextual only [go_sem,ZQ]);(repeat' first|(with_reducible refine hK' _ _ ?_;clear hK' K')|((with_reducible first|refine ⟨_,_,ACallX.h1 (B3U n L hbag.d (by omega)) (by with_unfolding_all rfl) (by with_unfolding_all rfl),?_⟩|refine ⟨_,ACallX.h1 (B3U n L hbag.d (by omega)) (by with_unfolding_all rfl) (by with_unfolding_all rfl),?_⟩);try simp+contextual only [go_sem,ZQ])|exact zY|with_reducible refine Qw5 ?_ ?_|(with_reducible intro hpath;try exact zP)|(refine hK' _ _ ?_;clear hK' K')|fail);try refine zS ?_))|(refine zE ?_;refine hK _ _ ?_;clear hK K)|(refine zN ?_;try refine zS ?_)|refine zA ?_|(refine zB ?_;intro K hK)|(refine zC ?_ ?_<;>(try refine zH ?_)<;>intro hcond<;>try exact zX)|fail)
   simp [A0y,A0x,Blk.cells,ty,Tryz.results91,A0s,A0u,toT,A0e,A0b,A0c,A0a,A0k,tG,A0f]
theorem B7u (l:List Int) (v:Int):A30 l v<l.length:=by
 induction l with
 | nil=>simp [A30]
 | cons x xs ih=>simp only [A30,List.length_cons]; (repeat' split)<;>omega
theorem B4c {n:Int}: ∀{l:List Int} {u:Int},A2X n (some u) l=0->u<n->(l.length:Int)≤n-1-u
 | [],u,_,hu=>by simp; omega
 | v::l,u,h,hu=>by
  simp only [A2X,Jz,exists_eq_left'] at h;split at h
  ·omega
  ·split at h
   ·omega
   ·have:=B4c h (by omega);simp only [List.length_cons]; omega
theorem B7v {n:Int} (hn:0≤n) {l:List Int} (h:A2X n none l=0):(l.length:Int)≤n:=by
 cases l with
 | nil=>simpa using hn
 | cons v l=>
  simp only [A2X,reduceCtorEq,false_and,exists_false,if_false] at h;split at h
  ·omega
  ·have:=B4c h (by omega);simp only [List.length_cons]; omega
theorem B7w (l:List Int) (v:Int) (hl:l.length<2^40):ACall Tryz.prog 92 [A0k v,.t (.rptr [.slice (A0o l)])] (A0k (A30 l v)):=by
 refine ACall.of_body Tryz.func92 rfl (by kernel_rfl) ?_;simp only [entry,Tryz.ntmps92,A0k];refine zU ?_;refine zR Qw6 (zc (B3W l v hl) Qw6) Qw6 ?_;simp [A0y,A0x,Blk.cells,ty,Tryz.results92,A0s,A0u,toT,A0e,A0b,A0c,A0a,A0k]
noncomputable def indE (g:G) (l:List Int):Int:=if B2s g l≠0 then B2s g l else if l=[] then 14 else 0
noncomputable def B7x (g:G) (l:List Int):G:=if indE g l≠0 then ⟨0,[]⟩ else ⟨l.length,A2K (B2V (A30 l) g.es)⟩
theorem B5q (g:G) (l:List Int) (hg:g.es.length<2^20) (hl:l.length<2^40):ACall Tryz.prog 45 [tG g,A0m l] (.tup [tG (B7x g l),A0k (indE g l)]):=by
 refine ACall.of_body Tryz.func45 rfl (by kernel_rfl) ?_;simp only [entry,Tryz.ntmps45,tG,A0m];refine zU ?_;refine AWp.seq_region (fun K hK=> ?_)
 repeat' (first|((first|(refine zT ?_;intro K' hK')|(refine zG ?_ ?_<;>(try refine zH ?_)<;>intro hguard<;>(try exact zX)<;>try intro K' hK'))<;>((try simp+contextual only [go_sem]);(repeat' first|(with_reducible refine hK' _ _ ?_;clear hK' K')|exact zY|with_reducible refine Qw5 ?_ ?_|(with_reducible intro hpath;try exact zP)|(refine hK' _ _ ?_;clear hK' K')|fail);try refine zS ?_))|(refine zE ?_;refine hK _ _ ?_;clear hK K)|(refine zN ?_;try refine zS ?_)|fail)
 refine AWp.freezeP 3 1 rfl rfl rfl ?_;simp only [List.set_cons_succ,List.set_cons_zero];by_cases hs0:B2s g l≠0
 ·have e:indE g l=B2s g l:=if_pos (by assumption);have e2:B7x g l=⟨0,[]⟩:=if_pos (by rw [e]; assumption)
  repeat' (first|((first|(refine zT ?_;intro K' hK')|(refine zG ?_ ?_<;>(try refine zH ?_)<;>intro hguard<;>(try exact zX)<;>try intro K' hK'))<;>((try simp+contextual only [go_sem,A0d]);(repeat' first|(with_reducible refine hK' _ _ ?_;clear hK' K')|(with_reducible refine zL (c:=A82 g l (by omega) hl) (q:=?_);try simp+contextual only [go_sem,A0d])|exact zY|with_reducible refine Qw5 ?_ ?_|(with_reducible intro hpath;try exact zP)|(refine hK' _ _ ?_;clear hK' K')|fail);try refine zS ?_))|(refine zE ?_;refine hK _ _ ?_;clear hK K)|(refine zN ?_;try refine zS ?_)|refine zA ?_|(refine zB ?_;intro K hK)|(refine zC ?_ ?_<;>(try refine zH ?_)<;>intro hcond<;>try exact zX)|fail)
  simp [A0y,A0x,Blk.cells,ty,Tryz.results45,A0s,A0u,toT,A0e,A0b,A0c,A0a,A0k,tG,e,e2,A0f]
 ·have hs0:B2s g l=0:=by omega
  by_cases el:l=[]
  ·have e:indE g l=14:=by unfold indE; rw [if_neg (by omega),if_pos el]
   have e2:B7x g l=⟨0,[]⟩:=if_pos (by rw [e]; decide);have el2:l.length=0:=by simp [el]
   repeat' (first|((first|(refine zT ?_;intro K' hK')|(refine zG ?_ ?_<;>(try refine zH ?_)<;>intro hguard<;>(try exact zX)<;>try intro K' hK'))<;>((try simp+contextual only [go_sem,A0d]);(repeat' first|(with_reducible refine hK' _ _ ?_;clear hK' K')|(with_reducible refine zL (c:=A82 g l (by omega) hl) (q:=?_);try simp+contextual only [go_sem,A0d])|exact zY|with_reducible refine Qw5 ?_ ?_|(with_reducible intro hpath;try exact zP)|(refine hK' _ _ ?_;clear hK' K')|fail);try refine zS ?_))|(refine zE ?_;refine hK _ _ ?_;clear hK K)|(refine zN ?_;try refine zS ?_)|refine zA ?_|(refine zB ?_;intro K hK)|(refine zC ?_ ?_<;>(try refine zH ?_)<;>intro hcond<;>try exact zX)|fail)
   simp [A0y,A0x,Blk.cells,ty,Tryz.results45,A0s,A0u,toT,A0e,A0b,A0c,A0a,A0k,tG,e,e2,A0f]
  ·have hc:checkG g=0:=by unfold B2s at hs0; split at hs0<;>omega
   have hn:=(A0j.1 hc).1;have hse:A2X g.n none l=0:=by unfold B2s at hs0; rwa [if_neg (by omega)] at hs0
   have hlen:=B7v (by omega) hse;have e:indE g l=0:=by unfold indE; rw [if_neg (by omega),if_neg el]
   have e2:B7x g l=⟨l.length,A2K (B2V (A30 l) g.es)⟩:=if_neg (by rw [e]; decide);have hi: ∀v,A30 l v<12:=fun v=>by have:=B7u l v; omega
   have hl0:0<l.length:=YX.2 el;have hmv:=C0d g l.length 92 (A0o l) (A30 l) hg (fun x _=>⟨⟨B7w l _ hl,hi _⟩,⟨B7w l _ hl,hi _⟩⟩)
   repeat' (first|((first|(refine zT ?_;intro K' hK')|(refine zG ?_ ?_<;>(try refine zH ?_)<;>intro hguard<;>(try exact zX)<;>try intro K' hK'))<;>((try simp+contextual only [go_sem,A0d]);(repeat' first|(with_reducible refine hK' _ _ ?_;clear hK' K')|((with_reducible first|refine zL (c:=A82 g l (by omega) hl) (q:=?_)|refine zK hmv ?_);try simp+contextual only [go_sem,A0d])|exact zY|with_reducible refine Qw5 ?_ ?_|(with_reducible intro hpath;try exact zP)|(refine hK' _ _ ?_;clear hK' K')|fail);try refine zS ?_))|(refine zE ?_;refine hK _ _ ?_;clear hK K)|(refine zN ?_;try refine zS ?_)|refine zA ?_|(refine zB ?_;intro K hK)|(refine zC ?_ ?_<;>(try refine zH ?_)<;>intro hcond<;>try exact zX)|fail)
   simp [A0y,A0x,Blk.cells,ty,Tryz.results45,A0s,A0u,toT,A0e,A0b,A0c,A0a,A0k,tG,e,e2,A0f]
instance ltE.dec:DecidableRel ltE:=fun x y=>by unfold ltE; infer_instance
def part:G:=⟨3,[⟨0,1,2⟩,⟨0,2,1⟩]⟩
structure RightG (g:G) (n:Nat):Prop where
 c:checkG g=0
 nn:g.n=n
 n1:1≤n
 n12:n≤12
 l:g.es.length≤40
 s:(endsL g.es).length≤400
theorem A50 (g:G) (a b:Int) (hl:g.es.length<2^40):ACall Tryz.prog 176 [tG g,A0k a,A0k b] (A0k (A1E g.es (min a b) (max a b))):=by
 refine ACall.of_body Tryz.func176 rfl (by kernel_rfl) ?_;simp only [entry,Tryz.ntmps176,tG,A0k];refine zU ?_;refine zR Qw6 Qw6 Qw6 ?_;refine AWp.loopS (α:=Nat) 37 (fun i=>[(1,.c (.int .i64 a)),(2,.c (.int .i64 b)),(3,.c (.ptr 0 0)),(7,.c (.int .i64 (i:Int)))]) (fun i=>[.box [.int .i64 g.n,.slice (A0f g.es) .none]]) (fun i=>i≤g.es.length∧A1E g.es (min a b) (max a b)=A1E (g.es.drop i) (min a b) (max a b)) (fun i=>g.es.length-i) (0) (hk:=A0r.headL 1 37 [1,2,3,7] zW) (h0:=?_) (round:=fun i hI=>?_)
 ·exact ⟨Xj _,rfl⟩
 ·obtain ⟨hi,hx⟩:=hI;by_cases hlt:i<g.es.length
  ·have e1:=A1Y (Qq hlt);rw [Zq hlt,A1E] at hx;generalize hy:g.es[i]=x at*
   repeat' (first|((first|(refine zT ?_;intro K' hK')|(refine zG ?_ ?_<;>(try refine zH ?_)<;>intro hguard<;>(try exact zX)<;>try intro K' hK'))<;>((try simp+contextual only [go_sem,e1,A00,Int.toNat_natCast,ZQ]);(repeat' first|(with_reducible refine hK' _ _ ?_;clear hK' K')|exact zY|with_reducible refine Qw5 ?_ ?_|(with_reducible intro hpath;try exact zP)|(refine hK' _ _ ?_;clear hK' K')|fail);try refine zS ?_))|(refine zE ?_;refine hK _ _ ?_;clear hK K)|(refine zN ?_;try refine zS ?_)|refine zA ?_|(refine zB ?_;intro K hK)|(refine zC ?_ ?_<;>(try refine zH ?_)<;>intro hcond<;>try exact zX)|fail)
   ·rw [if_pos ⟨by omega,by omega⟩] at hx;simp [A0y,A0x,Blk.cells,ty,Tryz.results176,A0s,A0u,toT,A0e,A0b,A0c,A0a,A0k,hx]
   all_goals
    rw [if_neg (by omega)] at hx;refine ⟨i+1,A0r.headN 1 37 [1,2,3,7] zW,?_,?_⟩
    ·exact ⟨hlt,hx⟩
    ·omega
  ·have ei:i=g.es.length:=by omega
   have h0:A1E g.es (min a b) (max a b)=0:=by rw [hx,ei,Vk,A1E]
   refine zR (zc @A00 (zc @ZQ Qw6)) Qw6 Qw6 ?_;simp [A0y,A0x,Blk.cells,ty,Tryz.results176,A0s,A0u,toT,A0e,A0b,A0c,A0a,A0k,h0]
theorem C0e {es:List E} (hm: ∀e,e∈es->1≤e.m) {a b:Int}:0<A1E es a b↔ ∃e,e∈es∧e.a=a∧e.b=b:=by
 induction es with
 | nil=>simp [A1E]
 | cons x xs ih=>
  have ih:=ih fun e he=>hm e (by simp [he]);simp only [A1E];split
  ·rename_i h;exact ⟨fun _=>⟨x,by simp,h.1,h.2⟩,fun _=>by have:=hm x (by simp); omega⟩
  ·rename_i h;rw [ih];constructor
   ·rintro ⟨e,he,h1,h2⟩; exact ⟨e,by simp [he],h1,h2⟩
   ·rintro ⟨e,he,h1,h2⟩;rcases Qw.1 he with rfl | he
    ·exact absurd ⟨h1,h2⟩ h
    ·exact ⟨e,he,h1,h2⟩
def bC (R:List Bool):List ACell:=R.map ACell.bool
def A3Z (R:List Bool):List (List Tree):=R.map fun b=>[Tree.bool b]
def A9C (R:List Bool):TVal:= .t (.slice (A3Z R))
attribute [go_sem] A9C
theorem A1Q (R:List Bool):(bC R).length=R.length:=by simp [bC]
theorem A42 (R:List Bool):(A3Z R).length=R.length:=by simp [A3Z]
theorem A9D {R:List Bool} {i:Nat} {b:Bool} (h:R[i]? =some b):(bC R)[i]? =some (.bool b):=by simp [bC,h]
theorem B7y {R:List Bool} {i:Nat} {b:Bool} (h:R[i]? =some b):(A3Z R)[i]? =some [.bool b]:=by simp [A3Z,h]
theorem A6a (R:List Bool) (i:Nat) (b:Bool):(bC R).set i (.bool b)=bC (R.set i b):=by simp [bC,Qz5]
theorem B2W {R:List Bool} {i:Nat} {b:Bool} (h:R[i]? =some b):(bC R).drop i= .bool b::(bC R).drop (i+1):=by
 have hl:=(Qx.1 h);rw [Zq (by rw [A1Q]; exact hl.1)];obtain ⟨h1,rfl⟩:=hl;simp [bC]
theorem A32 (n:Nat):A61 [ACell.bool false] n=bC (List.replicate n false):=by
 simp [A61,bC]
def B6j (es:List E) (a b:Nat):Bool:=decide (0<A1E es (min (a:Int) b) (max (a:Int) b))
def A33 (es:List E) (a:Nat) (R:List Bool) (b:Nat):List Bool:=if R.getD a false&&B6j es a b then R.set b true else R
def rRow (es:List E) (n a:Nat) (R:List Bool):List Bool:=(List.range n).foldl (A33 es a) R
def A7f (es:List E) (n:Nat) (R:List Bool):List Bool:=(List.range n).foldl (fun R a=>rRow es n a R) R
def A1x (es:List E) (n v k:Nat):List Bool:=(List.range k).foldl (fun R _=>A7f es n R) ((List.replicate n false).set v true)
def A84 (es:List E) (n v:Nat):List Bool:=A1x es n v n
theorem A0X {α:Type} (f:α->Nat->α) (z:α) (k:Nat):(List.range (k+1)).foldl f z=f ((List.range k).foldl f z) k:=by rw [WZ,Qz7]; rfl
theorem A2P {f:List Bool->Nat->List Bool} (h: ∀R i,(f R i).length=R.length) (l:List Nat) (R:List Bool):(l.foldl f R).length=R.length:=by
 induction l generalizing R with
 | nil=>rfl
 | cons x xs ih=>rw [List.foldl_cons,ih,h]
theorem A6b (es:List E) (a:Nat) (R:List Bool) (b:Nat):(A33 es a R b).length=R.length:=by unfold A33; split<;>simp
theorem B4d (es:List E) (n a:Nat) (R:List Bool):(rRow es n a R).length=R.length:=A2P (A6b es a) _ _
theorem B5r (es:List E) (n:Nat) (R:List Bool):(A7f es n R).length=R.length:=A2P (fun R a=>B4d es n a R) _ _
theorem A4R (es:List E) (n v k:Nat):(A1x es n v k).length=n:=by
 unfold A1x; rw [A2P (fun R _=>B5r es n R)]; simp
theorem B7z {es:List E} {a:Nat} {R:List Bool} {b:Nat} {x:Bool} (h:R[a]? =some x):A33 es a R b=if x=true∧0<A1E es (min (a:Int) b) (max (a:Int) b) then R.set b true else R:=by
 unfold A33 B6j;rw [Qz,h,Option.getD_some];cases x<;>simp
theorem A77 {R:List Bool} {n a:Nat} (h:R.length=n) (ha:a<n): ∃x,R[a]? =some x:=⟨_,Qq (by omega)⟩
theorem C31 {R:List Bool} {n:Nat} (h:R.length=n) {H:List Blk} {id:Nat} (hid:H[id]? =some (.box (bC R))):A0e H (.ref id 1 0 n n)=some (.slice (A3Z R)):=by
 have e:A0e H (.ref id 1 0 n n)=A0b H (.ref id 1 0 n n):=rfl;have hf:=A4q (rows:=A3Z R) (k:=1) (cap:=n) (fun r hr=>by obtain ⟨b,_,rfl⟩:=Xq.1 hr; rfl) (fun r hr=>by obtain ⟨b,_,rfl⟩:=Xq.1 hr; rfl) (by rw [A42]; omega);have hfl:flatRows (A3Z R)=bC R:=by
  simp only [flatRows,A3Z,bC];clear e hf hid h
  induction R with
  | nil=>rfl
  | cons x xs ih=>simp only [Xy,List.flatten_cons,WW,ih]; rfl
 rw [hfl,A42,h] at hf;unfold A4p at hf;rw [e];simp only [A0b,hid,Blk.cells,Option.bind_some];split at hf
 ·rename_i hc;rw [if_pos hc];cases hm:(((bC R).drop 0).take (n*1)).mapM A0a with
  | none=>rw [hm] at hf; simp at hf
  | some ts=>
   rw [hm] at hf;simp only [Option.bind_some] at hf;split at hf
   ·simp at hf; simp [hf]
   ·simp at hf
 ·simp at hf
theorem B5s (g:G) (n v:Nat) (hc:checkG g=0) (hn:g.n=n) (hv:v<n) (hl:g.es.length<2^30):ACall Tryz.prog 145 [tG g,A0k v] (A9C (A84 g.es n v)):=by
 have hn12:=(A0j.1 hc).1;have hbe: ∀a b:Nat,ACall Tryz.prog 176 [tG g,A0k a,A0k b] (A0k (A1E g.es (min (a:Int) b) (max (a:Int) b))):=fun a b=>A50 g a b (by omega);obtain ⟨gn,es⟩:=g;simp only at hn hl hn12 hbe ⊢;subst hn;refine ACall.of_body Tryz.func145 rfl (by kernel_rfl) ?_;simp only [entry,Tryz.ntmps145,tG,A0k];refine zU ?_
 repeat' (first|((first|(refine zT ?_;intro K' hK')|(refine zG ?_ ?_<;>(try refine zH ?_)<;>intro hguard<;>(try exact zX)<;>try intro K' hK'))<;>((try simp+contextual only [go_sem,A32,Int.toNat_natCast,Yq,A6a,A1Q,Yx]);(repeat' first|(with_reducible refine hK' _ _ ?_;clear hK' K')|exact zY|with_reducible refine Qw5 ?_ ?_|(with_reducible intro hpath;try exact zP)|(refine hK' _ _ ?_;clear hK' K')|fail);try refine zS ?_))|(refine zE ?_;refine hK _ _ ?_;clear hK K)|(refine zN ?_;try refine zS ?_)|refine zA ?_|(refine zB ?_;intro K hK)|(refine zC ?_ ?_<;>(try refine zH ?_)<;>intro hcond<;>try exact zX)|fail)
 refine AWp.loopS (α:=Nat) 48 (fun k=>[(1,.c (.int .i64 (v:Int))),(2,.c (.ptr 0 0)),(5,.c (.ref 1 1 0 n n)),(6,.c (.int .i64 (k:Int)))]) (fun k=>[.box [.int .i64 (n:Int),.slice (A0f es) .none],.box (bC (A1x es n v k))]) (fun k=>k≤n) (fun k=>n-k) (0) (hk:=A0r.headL 2 48 [1,2,5,6] zW) (h0:=?_) (round:=fun k hI=>?_)
 ·exact Xj _
 ·have hk:k≤n:=hI;clear hI;by_cases hlt:k<n
  ·have hltI:(k:Int)<n:=by omega
   have hN:A1x es n v (k+1)=A7f es n (A1x es n v k):=A0X _ _ _;have hlen:=A4R es n v k;generalize A1x es n v k=R at*;refine zR (zc @hltI Qw6) Qw6 Qw6 ?_;refine AWp.loopS (α:=Nat) 48 (fun a=>[(1,.c (.int .i64 (v:Int))),(2,.c (.ptr 0 0)),(5,.c (.ref 1 1 0 n n)),(6,.c (.int .i64 (k:Int))),(7,.c (.int .i64 (a:Int)))]) (fun a=>[.box [.int .i64 (n:Int),.slice (A0f es) .none],.box (bC ((List.range a).foldl (fun R a=>rRow es n a R) R))]) (fun a=>a≤n) (fun a=>n-a) (0) (hk:=A0r.headL 2 48 [1,2,5,6,7] zW) (h0:=?_) (round:=fun a hI=>?_)
   ·exact Xj _
   ·have ha:a≤n:=hI;clear hI;by_cases hlta:a<n
    ·have hltaI:(a:Int)<n:=by omega
     have hA:(List.range (a+1)).foldl (fun R a=>rRow es n a R) R=rRow es n a ((List.range a).foldl (fun R a=>rRow es n a R) R):=A0X _ _ _;have hlen2:((List.range a).foldl (fun R a=>rRow es n a R) R).length=n:=by rw [A2P (fun R a=>B4d es n a R),hlen]
     generalize (List.range a).foldl (fun R a=>rRow es n a R) R=S at*;refine zR (zc @hltaI Qw6) Qw6 Qw6 ?_;refine AWp.loopS (α:=Nat) 48 (fun b=>[(1,.c (.int .i64 (v:Int))),(2,.c (.ptr 0 0)),(5,.c (.ref 1 1 0 n n)),(6,.c (.int .i64 (k:Int))),(7,.c (.int .i64 (a:Int))),(8,.c (.int .i64 (b:Int)))]) (fun b=>[.box [.int .i64 (n:Int),.slice (A0f es) .none],.box (bC ((List.range b).foldl (A33 es a) S))]) (fun b=>b≤n) (fun b=>n-b) (0) (hk:=A0r.headL 2 48 [1,2,5,6,7,8] zW) (h0:=?_) (round:=fun b hI=>?_)
     ·exact Xj _
     ·have hb:b≤n:=hI;clear hI;by_cases hltb:b<n
      ·have hltbI:(b:Int)<n:=by omega
       have hB:(List.range (b+1)).foldl (A33 es a) S=A33 es a ((List.range b).foldl (A33 es a) S) b:=A0X _ _ _;have hlen3:((List.range b).foldl (A33 es a) S).length=n:=by rw [A2P (A6b es a),hlen2]
       generalize (List.range b).foldl (A33 es a) S=T at*;obtain ⟨x,hx⟩:=A77 hlen3 hlta;have hd:=B2W hx;have hst:=B7z (es:=es) (b:=b) hx;have hbb:=hbe a b;have hg:=A9D hx;generalize A1E es (min (a:Int) b) (max (a:Int) b)=c at*;cases x with
       | true=>
        by_cases hcp:0<c
        ·rw [if_pos ⟨rfl,hcp⟩] at hst;rw [hst] at hB;refine zR (zc @hltbI (zc @hd (zc @hg (zc @hcp (zc @A1Q (zc @hlen3 (zc @A6a Qw6))))))) (zc hbb Qw6) Qw6 ?_;refine ⟨b+1,A0r.headF 2 48 [1,2,5,6,7,8] (zc @hB Qw6) zW,?_,?_⟩
         ·exact hltb
         ·omega
        ·rw [if_neg (by simp [hcp])] at hst;rw [hst] at hB;refine zR (zc @hltbI (zc @hd (zc @hg (zc @hcp (zc @A1Q (zc @hlen3 Qw6)))))) (zc hbb Qw6) Qw6 ?_;refine ⟨b+1,A0r.headF 2 48 [1,2,5,6,7,8] (zc @hB Qw6) zW,?_,?_⟩
         ·exact hltb
         ·omega
       | false=>
        rw [if_neg (by simp)] at hst;rw [hst] at hB;refine zR (zc @hltbI (zc @hd (zc @hg (zc @A1Q (zc @hlen3 Qw6))))) Qw6 Qw6 ?_;refine ⟨b+1,A0r.headF 2 48 [1,2,5,6,7,8] (zc @hB Qw6) zW,?_,?_⟩
        ·exact hltb
        ·omega
      ·have eb:b=n:=by omega
       subst eb;have hnl: ¬((b:Int)<b):=by omega
       have hA':(List.range (a+1)).foldl (fun R a=>rRow es b a R) R=(List.range b).foldl (A33 es a) S:=hA;refine zR (zc @hnl Qw6) Qw6 Qw6 ?_;refine ⟨a+1,A0r.headF 2 48 [1,2,5,6,7] (zc @hA' Qw6) zW,?_,?_⟩
       ·exact hlta
       ·omega
    ·have ea:a=n:=by omega
     subst ea;have hnl: ¬((a:Int)<a):=by omega
     have hN':A1x es a v (k+1)=(List.range a).foldl (fun R b=>rRow es a b R) R:=hN;refine zR (zc @hnl Qw6) Qw6 Qw6 ?_;refine ⟨k+1,A0r.headF 2 48 [1,2,5,6] (zc @hN' Qw6) zW,?_,?_⟩
     ·exact hlt
     ·omega
  ·have ek:k=n:=by omega
   subst ek;have hnl: ¬((k:Int)<k):=by omega
   have hlen:=A4R es k v k;refine zR (zc @hnl Qw6) Qw6 Qw6 ?_;have hR:=C31 hlen (H:=[Blk.box [.int .i64 (k:Int),.slice (A0f es) .none],Blk.box (bC (A1x es k v k))]) (id:=1) rfl;simp [A0y,A0x,Tryz.results145,A0s,A0u,toT,A9C,A84,hR]
def A85 (R S:List Bool) (u:Nat):List Bool:=S.set u (S.getD u false||R.getD u false)
def orK (R S:List Bool) (k:Nat):List Bool:=(List.range k).foldl (A85 R) S
theorem A9E (R S:List Bool) (u:Nat):(A85 R S u).length=S.length:=by simp [A85]
theorem B70 (R S:List Bool) (k:Nat):(orK R S k).length=S.length:=A2P (A9E R) _ _
def seenStep (es:List E) (n:Nat) (S:List Bool) (v:Nat):List Bool:=if S.getD v false then S else orK (A84 es n v) S n
def A6c (es:List E) (n v:Nat):List Bool:=(List.range v).foldl (seenStep es n) (List.replicate n false)
theorem B1C (es:List E) (n v:Nat):(A6c es n v).length=n:=by
 unfold A6c;rw [A2P (fun S v=>by unfold seenStep; split<;>simp [B70])]; simp
def A2q (es:List E) (n:Nat):Nat->Nat
 | 0=>0
 | v+1=>if (A6c es n v).getD v false then A2q es n v else A2q es n v+1
theorem B71 (es:List E) (n v:Nat):A2q es n v≤v:=by
 induction v with
 | zero=>exact QQ _
 | succ v ih=>simp only [A2q]; split<;>omega
theorem B2X {R:List Bool} {i:Nat} {x:Bool} (h:R[i]? =some x):R.getD i false=x:=by rw [Qz,h]; rfl
theorem C0f (g:G) (n:Nat) (hc:checkG g=0) (hn:g.n=n) (hl:g.es.length<2^30):ACall Tryz.prog 88 [tG g] (A0k (A2q g.es n n)):=by
 have hn12:=(A0j.1 hc).1;have hre: ∀v:Nat,v<n->ACall Tryz.prog 145 [tG g,A0k v] (A9C (A84 g.es n v)):=fun v hv=>B5s g n v hc hn hv hl;obtain ⟨gn,es⟩:=g;simp only at hn hl hn12 hre ⊢;subst hn;refine ACall.of_body Tryz.func88 rfl (by kernel_rfl) ?_;simp only [entry,Tryz.ntmps88,tG];refine zU ?_
 repeat' (first|((first|(refine zT ?_;intro K' hK')|(refine zG ?_ ?_<;>(try refine zH ?_)<;>intro hguard<;>(try exact zX)<;>try intro K' hK'))<;>((try simp+contextual only [go_sem,A32,Int.toNat_natCast,Yq,A6a,A1Q,Yx]);(repeat' first|(with_reducible refine hK' _ _ ?_;clear hK' K')|exact zY|with_reducible refine Qw5 ?_ ?_|(with_reducible intro hpath;try exact zP)|(refine hK' _ _ ?_;clear hK' K')|fail);try refine zS ?_))|(refine zE ?_;refine hK _ _ ?_;clear hK K)|(refine zN ?_;try refine zS ?_)|refine zA ?_|(refine zB ?_;intro K hK)|(refine zC ?_ ?_<;>(try refine zH ?_)<;>intro hcond<;>try exact zX)|fail)
 refine AWp.loopS (α:=Nat) 46 (fun v=>[(1,.c (.ptr 0 0)),(2,.c (.int .i64 0)),(3,.c (.int .i64 (A2q es n v))),(4,.c (.ref 1 1 0 n n)),(5,.c (.int .i64 (v:Int)))]) (fun v=>[.box [.int .i64 (n:Int),.slice (A0f es) .none],.box (bC (A6c es n v))]) (fun v=>v≤n) (fun v=>n-v) (0) (hk:=A0r.headL 2 46 [1,2,3,4,5] zW) (h0:=?_) (round:=fun v hI=>?_)
 ·exact Xj _
 ·have hv:v≤n:=hI;clear hI;have hlen:=B1C es n v;have hpl:=B71 es n v;by_cases hlt:v<n
  ·have hltI:(v:Int)<n:=by omega
   have hS1:A6c es n (v+1)=seenStep es n (A6c es n v) v:=A0X _ _ _;have hP1:A2q es n (v+1)=if (A6c es n v).getD v false then A2q es n v else A2q es n v+1:=rfl
   have hrv:=hre v hlt;have hrl:=A4R es n v n;generalize A2q es n v=p at*;generalize A6c es n v=S at*;obtain ⟨x,hx⟩:=A77 hlen hlt;unfold seenStep at hS1;rw [B2X hx] at hS1 hP1;have hd:=B2W hx;have hg:=A9D hx;cases x with
   | true=>
    rw [if_pos rfl] at hS1 hP1;refine zR (zc @hltI (zc @hd (zc @hg (zc @A1Q (zc @hlen Qw6))))) Qw6 Qw6 ?_;refine ⟨v+1,A0r.headF 2 46 [1,2,3,4,5] (zc @hS1 (zc @hP1 Qw6)) zW,?_,?_⟩
    ·exact hlt
    ·omega
   | false=>
    rw [if_neg (by simp)] at hS1 hP1;change (A84 es n v).length=n at hrl;generalize A84 es n v=R at*;refine zR (zc @hltI (zc @hd (zc @hg (zc @A1Q (zc @hlen Qw6))))) (zc hrv Qw6) Qw6 ?_;refine AWp.loopS (α:=Nat) 46 (fun u=>[(1,.c (.ptr 0 0)),(2,.c (.int .i64 0)),(3,.c (.int .i64 ((p:Int)+1))),(4,.c (.ref 1 1 0 n n)),(5,.c (.int .i64 (v:Int))),(6,.c (.slice (A3Z R) .none)),(7,.c (.int .i64 (u:Int)))]) (fun u=>[.box [.int .i64 (n:Int),.slice (A0f es) .none],.box (bC (orK R S u))]) (fun u=>u≤n) (fun u=>n-u) (0) (hk:=A0r.headL 2 46 [1,2,3,4,5,6,7] zW) (h0:=?_) (round:=fun u hI=>?_)
    ·exact Xj _
    ·have hu:u≤n:=hI;clear hI;have hlen2:(orK R S u).length=n:=(B70 R S u).trans hlen;by_cases hltu:u<n
     ·have hltuI:(u:Int)<n:=by omega
      have hO:orK R S (u+1)=A85 R (orK R S u) u:=A0X _ _ _;generalize orK R S u=T at*;obtain ⟨y,hy⟩:=A77 hlen2 hltu;obtain ⟨z,hz⟩:=A77 hrl hltu;unfold A85 at hO;rw [B2X hy,B2X hz] at hO;have hd2:=B2W hy;have hg2:=A9D hy;have hg3:=B7y hz;cases y with
      | true=>
       rw [Bool.true_or] at hO;refine zR (zc @hltuI (zc @hd2 (zc @hg2 (zc @hg3 (zc @A1Q (zc @hlen2 (zc @A6a (zc @A42 (zc @hrl Qw6))))))))) Qw6 Qw6 ?_;refine ⟨u+1,A0r.headF 2 46 [1,2,3,4,5,6,7] (zc @hO Qw6) zW,?_,?_⟩
       ·exact hltu
       ·omega
      | false=>
       rw [Qq3] at hO;refine zR (zc @hltuI (zc @hd2 (zc @hg2 (zc @hg3 (zc @A1Q (zc @hlen2 (zc @A6a (zc @A42 (zc @hrl Qw6))))))))) Qw6 Qw6 ?_;refine ⟨u+1,A0r.headF 2 46 [1,2,3,4,5,6,7] (zc @hO Qw6) zW,?_,?_⟩
       ·exact hltu
       ·omega
     ·have eu:u=n:=by omega
      subst eu;have hnl: ¬((u:Int)<u):=by omega
      refine zR (zc @hnl Qw6) Qw6 Qw6 ?_;refine ⟨v+1,A0r.headF 2 46 [1,2,3,4,5] (zc @hS1 (zc @hP1 Qw6)) zW,?_,?_⟩
      ·exact hlt
      ·omega
  ·have ev:v=n:=by omega
   subst ev;have hnl: ¬((v:Int)<v):=by omega
   refine zR (zc @hnl Qw6) Qw6 Qw6 ?_;simp [A0y,A0x,Blk.cells,ty,Tryz.results88,A0s,A0u,toT,A0e,A0b,A0c,A0a,A0k]
end Go.Proofs.YtdbdfkohpjefjaaGreat
