/- A part of the proof. -/
import Derived.Test.YtdbdfkohpjefjaaGreatPart01
import Derived.Test.YtdbdfkohpjefjaaGreatPart02
import Derived.Shelf.SlSortCmp.NoneTotal
set_option linter.all false
set_option maxHeartbeats 4000000
set_option maxRecDepth 100000
namespace Go.Proofs.YtdbdfkohpjefjaaGreat
open Go.Sp
theorem A70 (g:G) (hs:(endsL g.es).length<2^40) (hl:g.es.length<2^40) (hm: ∀e,e∈g.es->e.m<2^40):ACall Tryz.prog 38 [tG g] (A0m (endsL g.es).length):=by
 refine ACall.of_body Tryz.func38 rfl (by kernel_rfl) ?_;simp only [entry,Tryz.ntmps38,tG];refine zU ?_
 repeat' (first|((first|(refine zT ?_;intro K' hK')|(refine zG ?_ ?_<;>(try refine zH ?_)<;>intro hguard<;>(try exact zX)<;>try intro K' hK'))<;>((try simp+contextual only [go_sem,A05]);(repeat' first|(with_reducible refine hK' _ _ ?_;clear hK' K')|(with_reducible refine zK (B3V g hs hl hm) ?_;try simp+contextual only [go_sem,A05])|exact zY|with_reducible refine Qw7 ?_ ?_|(with_reducible intro hpath;try exact zP)|(refine hK' _ _ ?_;clear hK' K')|fail);try refine zS ?_))|(refine zE ?_;refine hK _ _ ?_;clear hK K)|(refine zN ?_;try refine zS ?_)|refine zA ?_|(refine zB ?_;intro K hK)|(refine zC ?_ ?_<;>(try refine zH ?_)<;>intro hcond<;>try exact zX)|fail)
 all_goals
  simp [A0z,A0y,Blk.cells,ty,Tryz.results38,A0t,A0u,toT,A0d,A0b,A0c,A0a,A0m]
def A6B (es:List E):Nat->Int×Int
 | 0=>(-1,-1)
 | j+1=>match es[j]? with
  | some y=>(y.a,y.b)
  | none=>(-1,-1)
def B6t (n:Int) (x:E):Prop:= ¬(0≤x.a∧x.a<n)∨ ¬(0≤x.b∧x.b<n)∨x.m<1∨50<x.m
theorem A5T {n:Int} {es:List E} {i:Nat} (hi:i<es.length) (h:B6t n es[i]):A44 n es i=2:=by
 unfold A44; rw [Qq hi]; exact if_pos h
theorem A9z {n:Int} {es:List E} {i:Nat} (hi:i<es.length) (h: ¬B6t n es[i]) (h2:es[i].b<es[i].a∨0≤orI [A59 (A6B es i).1 es[i].a,A59 (A6B es i).2 es[i].b]):A44 n es i=9:=by
 unfold A44; rw [Qq hi];simp only;unfold B6t at h;rw [if_neg h];by_cases hb:es[i].b<es[i].a
 ·rw [if_pos hb]
 ·rw [if_neg hb];rcases h2 with h2 | h2
  ·exact absurd h2 hb
  ·cases i with
   | zero=>exfalso; simp only [A6B,orI,A59] at h2; (repeat' split at h2)<;>omega
   | succ j=>
    have hj:j<es.length:=by omega
    simp only [A6B,Qq hj,orI,A59] at h2 ⊢;rw [if_pos]
    (repeat' split at h2)<;>omega
theorem B5n {n:Int} {es:List E} {i:Nat} (hi:i<es.length) (h: ¬B6t n es[i]) (h1: ¬es[i].b<es[i].a) (h2: ¬0≤orI [A59 (A6B es i).1 es[i].a,A59 (A6B es i).2 es[i].b]):A44 n es i=0:=by
 unfold A44; rw [Qq hi];simp only;unfold B6t at h;rw [if_neg h,if_neg h1];cases i with
 | zero=>rfl
 | succ j=>
  have hj:j<es.length:=by omega
  simp only [A6B,Qq hj,orI,A59] at h2 ⊢;rw [if_neg]
  (repeat' split at h2)<;>omega
theorem A71 (g:G) (hl:g.es.length<2^40):ACall Tryz.prog 93 [tG g] (A0m (checkG g)):=by
 refine ACall.of_body Tryz.func93 rfl (by kernel_rfl) ?_;simp only [entry,Tryz.ntmps93,tG];refine zU ?_
 repeat' (first|((first|(refine zT ?_;intro K' hK')|(refine zG ?_ ?_<;>(try refine zH ?_)<;>intro hguard<;>(try exact zX)<;>try intro K' hK'))<;>((try simp+contextual only [go_sem,A01]);(repeat' first|(with_reducible refine hK' _ _ ?_;clear hK' K')|exact zY|with_reducible refine Qw7 ?_ ?_|(with_reducible intro hpath;try exact zP)|(refine hK' _ _ ?_;clear hK' K')|fail);try refine zS ?_))|(refine zE ?_;refine hK _ _ ?_;clear hK K)|(refine zN ?_;try refine zS ?_)|refine zA ?_|(refine zB ?_;intro K hK)|(refine zC ?_ ?_<;>(try refine zH ?_)<;>intro hcond<;>try exact zX)|fail)
 ·
  simp [A0z,A0y,Blk.cells,ty,Tryz.results93,A0t,A0u,toT,A0d,A0b,A0c,A0a,A0m,checkG]
  all_goals omega
 ·
  refine AWp.loopS (α:=Nat) 67 (fun i=>[(1,.c (.ptr 0 0)),(3,.c (.ptr 1 0)),(17,.c (.slice (A0f g.es) .none)),(18,.c (.int .i64 g.es.length)),(19,.c (.int .i64 (i:Int)))]) (fun i=>[.box [.int .i64 g.n,.slice (A0f g.es) .none],.box [.int .i64 (A6B g.es i).1,.int .i64 (A6B g.es i).2]]) (fun i=>i≤g.es.length∧checkG g=A45 g.n g.es (g.es.length-i)) (fun i=>g.es.length-i) (0) (hk:=Weak.headL 2 67 [1,3,17,18,19] zW) (h0:=?_) (round:=fun i hI=>?_)
  ·exact ⟨Xj _,by simp only [checkG,Nat.sub_zero]; rw [if_neg (by omega)]⟩
  ·obtain ⟨hi,hx⟩:=hI;by_cases hlt:i<g.es.length
   ·have es:g.es.length-i=(g.es.length-(i+1))+1:=by omega
    have ei:g.es.length-(g.es.length-(i+1)+1)=i:=by omega
    rw [es,A45,ei] at hx;have e1:g.es[i]? =some g.es[i]:=Qq hlt;have e2:=A1Y e1
    repeat' (first|((first|(refine zT ?_;intro K' hK')|(refine zG ?_ ?_<;>(try refine zH ?_)<;>intro hguard<;>(try exact zX)<;>try intro K' hK'))<;>((try simp+contextual only [go_sem,e2,Int.toNat_natCast]);(repeat' first|(with_reducible refine hK' _ _ ?_;clear hK' K')|((with_reducible first|refine zK (A8k _ _) ?_|refine zK (A9v _ _ _ _) ?_);try simp+contextual only [go_sem,e2,Int.toNat_natCast])|exact zY|with_reducible refine Qw7 ?_ ?_|(with_reducible intro hpath;try exact zP)|(refine hK' _ _ ?_;clear hK' K')|fail);try refine zS ?_))|(refine zE ?_;refine hK _ _ ?_;clear hK K)|(refine zN ?_;try refine zS ?_)|refine zA ?_|(refine zB ?_;intro K hK)|(refine zC ?_ ?_<;>(try refine zH ?_)<;>intro hcond<;>try exact zX)|fail)
    ·have h2:checkG g=2:=by rw [hx,A5T hlt (by unfold B6t; omega),if_pos (by decide)]
     simp [A0z,A0y,Blk.cells,ty,Tryz.results93,A0t,A0u,toT,A0d,A0b,A0c,A0a,A0m,h2]
    ·have h9:checkG g=9:=by rw [hx,A9z hlt (by unfold B6t; omega) (by first | exact .inl (by assumption) | exact .inr (by assumption)),if_pos (by decide)]
     simp [A0z,A0y,Blk.cells,ty,Tryz.results93,A0t,A0u,toT,A0d,A0b,A0c,A0a,A0m,h9]
    ·have h0:A44 g.n g.es i=0:=B5n hlt (by unfold B6t; omega) (by omega) (by omega);refine ⟨i+1,Weak.headN 2 67 [1,3,17,18,19] zW (e1:=by first|rfl|(simp [mask,A18,A6B,e1];done)|(simp [mask,A18,A6B,e1]<;>simp_all<;>omega)) (e2:=by first|rfl|(simp [mask,A18,A6B,e1];done)|(simp [mask,A18,A6B,e1]<;>simp_all<;>omega)),?_,?_⟩
     ·exact ⟨hlt,by rw [hx,if_neg (by omega)]⟩
     ·omega
    ·have h9:checkG g=9:=by rw [hx,A9z hlt (by unfold B6t; omega) (by first | exact .inl (by assumption) | exact .inr (by assumption)),if_pos (by decide)]
     simp [A0z,A0y,Blk.cells,ty,Tryz.results93,A0t,A0u,toT,A0d,A0b,A0c,A0a,A0m,h9]
    ·have h2:checkG g=2:=by rw [hx,A5T hlt (by unfold B6t; omega),if_pos (by decide)]
     simp [A0z,A0y,Blk.cells,ty,Tryz.results93,A0t,A0u,toT,A0d,A0b,A0c,A0a,A0m,h2]
    ·have h2:checkG g=2:=by rw [hx,A5T hlt (by unfold B6t; omega),if_pos (by decide)]
     simp [A0z,A0y,Blk.cells,ty,Tryz.results93,A0t,A0u,toT,A0d,A0b,A0c,A0a,A0m,h2]
    ·have h2:checkG g=2:=by rw [hx,A5T hlt (by unfold B6t; omega),if_pos (by decide)]
     simp [A0z,A0y,Blk.cells,ty,Tryz.results93,A0t,A0u,toT,A0d,A0b,A0c,A0a,A0m,h2]
   ·have ei:i=g.es.length:=by omega
    have h0:checkG g=0:=by rw [hx,ei,Jz,A45]
    refine zR (zc @A01 (zc @ZY Qw8)) Qw8 Qw8 ?_;simp [A0z,A0y,Blk.cells,ty,Tryz.results93,A0t,A0u,toT,A0d,A0b,A0c,A0a,A0m,h0]
 ·
  simp [A0z,A0y,Blk.cells,ty,Tryz.results93,A0t,A0u,toT,A0d,A0b,A0c,A0a,A0m,checkG]
  all_goals omega
def A7e (l:List (Int×Int)):List (List TVal):=l.zipIdx.map fun p=>[A0m (p.2:Int),A3a p.1.1 p.1.2]
theorem A6C (l:List (Int×Int)):(A7e l).length=l.length:=by simp [A7e]
theorem B5o {l:List (Int×Int)} {i:Nat} {p:Int×Int} (h:l[i]? =some p):(A7e l)[i]? =some [A0m (i:Int),A3a p.1 p.2]:=by
 simp [A7e,h]
theorem A6D {l:List (Int×Int)} {i:Nat} {ts:List TVal} (h:(A7e l)[i]? =some ts): ∃p,l[i]? =some p∧ts=[A0m (i:Int),A3a p.1 p.2]:=by
 simp only [A7e,QY,Qz2] at h;cases hl:l[i]? with
 | none=>simp [hl] at h
 | some p=>simp [hl] at h; exact ⟨p,rfl,h.symm⟩
theorem B7g {es:List E} {i k:Nat} (h:i<es.length) (hk:k<(es[i]'h).m.toNat):(endsL es)[(endsL (es.take i)).length+k]? =some (es[i].a,es[i].b):=by
 have e:endsL es=endsL (es.take i)++(List.replicate es[i].m.toNat (es[i].a,es[i].b)++endsL (es.drop (i+1))):=by
  rw [<-Zj,<-A1t h,<-A3n,Wy]
 rw [e,QJ (by omega),Nat.add_sub_cancel_left,Qk (by rw [Yq]; exact hk)];rw [Qq9,if_pos hk]
theorem A8m (g:G) (hs:(endsL g.es).length<2^40) (hl:g.es.length<2^40) (hm: ∀e,e∈g.es->e.m<2^40):AIter Tryz.prog 150 [.rptr [.int .i64 g.n,.slice (A0f g.es)]] (A7e (endsL g.es)):=by
 refine AIter.of_body Tryz.func150 rfl (by kernel_rfl) rfl (fun l J Jx hJ hJx hY=> ?_);simp only [entry,Tryz.ntmps150,ofT,A2G,A03,Xy,Zx,List.length_cons,List.length_nil,Nat.reduceAdd,Nat.reduceSub,List.replicate_succ,List.replicate_zero,List.cons_append,List.nil_append];refine zR (zc @A01 Qw8) Qw8 Qw8 ?_;refine AWp.loopS (α:=Nat) 30 (fun i=>[(0,.c (.yld l)),(1,.c (.rptr [.int .i64 g.n,.slice (A0f g.es)])),(3,.c (.int .i64 ((endsL (g.es.take i)).length:Int))),(7,.c (.slice (A0f g.es) .none)),(8,.c (.int .i64 (g.es.length:Int))),(9,.c (.int .i64 (i:Int)))]) (fun i=>[.ghost (J (endsL (g.es.take i)).length)]) (fun i=>i≤g.es.length) (fun i=>g.es.length-i) (0) (hk:=Weak.headL 1 30 [0,1,3,7,8,9] zW) (h0:=?_) (round:=fun i hI=>?_)
 ·exact Xj _
 ·by_cases hlt:i<g.es.length
  ·have e1:g.es[i]? =some g.es[i]:=Qq hlt;have e2:=A1Y e1;have hle:=A5S g.es (i+1);rw [A1t hlt,Xw,Yq] at hle;have hmi:=hm g.es[i] (Xv hlt)
   repeat' (first|((first|(refine zT ?_;intro K' hK')|(refine zG ?_ ?_<;>(try refine zH ?_)<;>intro hguard<;>(try exact zX)<;>try intro K' hK'))<;>((try simp+contextual only [go_sem,A01,ZY,e2,Int.toNat_natCast]);(repeat' first|(with_reducible refine hK' _ _ ?_;clear hK' K')|exact zY|with_reducible refine Qw7 ?_ ?_|(with_reducible intro hpath;try exact zP)|(refine hK' _ _ ?_;clear hK' K')|fail);try refine zS ?_))|(refine zE ?_;refine hK _ _ ?_;clear hK K)|(refine zN ?_;try refine zS ?_)|refine zA ?_|(refine zB ?_;intro K hK)|(refine zC ?_ ?_<;>(try refine zH ?_)<;>intro hcond<;>try exact zX)|fail)
   ·
    refine AWp.loopS (α:=Nat) 30 (fun k=>[(0,.c (.yld l)),(1,.c (.rptr [.int .i64 g.n,.slice (A0f g.es)])),(3,.c (.int .i64 (((endsL (g.es.take i)).length+k:Nat):Int))),(5,.c (.ptr 1 0)),(7,.c (.slice (A0f g.es) .none)),(8,.c (.int .i64 (g.es.length:Int))),(9,.c (.int .i64 (i:Int))),(14,.c (.int .i64 g.es[i].m)),(15,.c (.int .i64 (k:Int)))]) (fun k=>[.ghost (J ((endsL (g.es.take i)).length+k)),.box [.int .i64 g.es[i].a,.int .i64 g.es[i].b,.int .i64 g.es[i].m]]) (fun k=>k≤g.es[i].m.toNat) (fun k=>g.es[i].m.toNat-k) (0) (hk:=Weak.headL 2 30 [0,1,3,5,7,8,9,14,15] zW) (h0:=?_) (round:=fun k hI=>?_)
    ·exact Xj _
    ·by_cases hk:(k:Int)<g.es[i].m
     ·
      have hk2:k<g.es[i].m.toNat:=by omega
      have hget:=B5o (B7g hlt hk2)
      repeat' (first|((with_reducible refine AWp.seq (AWp.of_reg (id:=6) (AReg.pre 7 (fun K hK=>?_))));simp only [List.take_succ_cons,List.take_zero])|((with_reducible refine AWp.of_reg (id:=6) (AReg.pre 7 (fun K hK=>?_)));simp only [List.take_succ_cons,List.take_zero])|((first|(refine zT ?_;intro K' hK')|(refine zG ?_ ?_<;>(try refine zH ?_)<;>intro hguard<;>(try exact zX)<;>try intro K' hK'))<;>((try simp+contextual only [go_sem]);(repeat' first|(with_reducible refine hK' _ _ ?_;clear hK' K')|exact zY|with_reducible refine Qw7 ?_ ?_|(with_reducible intro hpath;try exact zP)|(refine hK' _ _ ?_;clear hK' K')|fail);try refine zS ?_))|(refine zE ?_;refine hK _ _ ?_;clear hK K)|(refine zN ?_;try refine zS ?_)|refine zA ?_|(refine zB ?_;intro K hK)|(refine zC ?_ ?_<;>(try refine zH ?_)<;>intro hcond<;>try exact zX)|fail)
      simp only [Zk,ZJ];refine AReg.yield rfl rfl rfl (by rfl) (by with_unfolding_all rfl) (by simp [okBlk]) (hY _ _ hget) (hJ _) hJx ?_ ?_<;>(try refine zS ?_)<;>refine AReg.rest (fun K hK=> ?_)
      ·
       repeat' (first|((first|(refine zT ?_;intro K' hK')|(refine zG ?_ ?_<;>(try refine zH ?_)<;>intro hguard<;>(try exact zX)<;>try intro K' hK'))<;>((try simp+contextual only [go_sem]);(repeat' first|(with_reducible refine hK' _ _ ?_;clear hK' K')|exact zY|with_reducible refine Qw7 ?_ ?_|(with_reducible intro hpath;try exact zP)|(refine hK' _ _ ?_;clear hK' K')|fail);try refine zS ?_))|(refine zE ?_;refine hK _ _ ?_;clear hK K)|(refine zN ?_;try refine zS ?_)|refine zA ?_|(refine zB ?_;intro K hK)|(refine zC ?_ ?_<;>(try refine zH ?_)<;>intro hcond<;>try exact zX)|fail)
       refine ⟨k+1,Weak.headF 2 30 [0,1,3,5,7,8,9,14,15] (zc @Wx Qw8) zW,?_,?_⟩
       ·exact hk2
       ·omega
      ·
       repeat' (first|((first|(refine zT ?_;intro K' hK')|(refine zG ?_ ?_<;>(try refine zH ?_)<;>intro hguard<;>(try exact zX)<;>try intro K' hK'))<;>((try simp+contextual only [go_sem]);(repeat' first|(with_reducible refine hK' _ _ ?_;clear hK' K')|exact zY|with_reducible refine Qw7 ?_ ?_|(with_reducible intro hpath;try exact zP)|(refine hK' _ _ ?_;clear hK' K')|fail);try refine zS ?_))|(refine zE ?_;refine hK _ _ ?_;clear hK K)|(refine zN ?_;try refine zS ?_)|refine zA ?_|(refine zB ?_;intro K hK)|(refine zC ?_ ?_<;>(try refine zH ?_)<;>intro hcond<;>try exact zX)|fail)
       exact ⟨Qw6,_,.inr rfl⟩
     ·
      have ek:k=g.es[i].m.toNat:=by omega
      refine zR (zc @e2 Qw8) Qw8 Qw8 ?_;refine ⟨i+1,Weak.headN 1 30 [0,1,3,7,8,9] zW (e1:=by first|rfl|(simp [mask,A18,A1t hlt,ek];done)|(simp [mask,A18,A1t hlt,ek]<;>simp_all<;>omega)) (e2:=by first|rfl|(simp [mask,A18,A1t hlt,ek];done)|(simp [mask,A18,A1t hlt,ek]<;>simp_all<;>omega)),?_,?_⟩
      ·exact hlt
      ·omega
  ·have ei:i=g.es.length:=by omega
   refine zR (zc @A01 (zc @ZY Qw8)) Qw8 Qw8 ?_;exact ⟨Qw6,_,.inl (by rw [A6C,ei,Zw])⟩
theorem A90 (g:G):ACall Tryz.prog 94 [tG g] (.t (.fn 150 [.rptr [.int .i64 g.n,.slice (A0f g.es)]])):=by
 refine ACall.of_body Tryz.func94 rfl (by kernel_rfl) ?_;simp only [entry,Tryz.ntmps94,tG];refine zU ?_;refine zR Qw8 Qw8 Qw8 ?_;simp [A0z,A0y,Blk.cells,ty,Tryz.results94,A0t,A0u,toT,A0d,A0b,A0c,A0a]
theorem B19 {l:List (Int×Int)} {n:Nat} (hn:n=2) (k:Nat) (ts:List TVal) (h:(A7e l)[k]? =some ts):ts.length=n:=by
 obtain ⟨p,_,rfl⟩:=A6D h; exact hn.symm
theorem take_snoc {α:Type} {l:List α} {k:Nat} {p:α} (h:l[k]? =some p):l.take (k+1)=l.take k++[p]:=by
 obtain ⟨hk,rfl⟩:=Qx.1 h;exact XX hk
theorem B2M {n:Int} {es:List E}: ∀{k:Nat},k≤es.length->(A45 n es k=0↔ ∀i,es.length-k≤i->i<es.length->A44 n es i=0):=by
 intro k
 induction k with
 | zero=>intro _; simp only [A45,true_iff]; intro i h1 h2; omega
 | succ k ih=>
  intro hk;simp only [A45];by_cases h:A44 n es (es.length-(k+1))=0
  ·rw [if_neg (by simp [h]),ih (by omega)];constructor
   ·intro hx i h1 h2;by_cases e:i=es.length-(k+1)
    ·subst e; exact h
    ·exact hx i (by omega) h2
   ·intro hx i h1 h2; exact hx i (by omega) h2
  ·rw [if_pos h];constructor
   ·intro hx; exact absurd hx h
   ·intro hx; exact absurd (hx _ (QQ _) (by omega)) h
def ltE (x y:E):Prop:=x.a<y.a∨(x.a=y.a∧x.b<y.b)
def okE (n:Int) (x:E):Prop:=0≤x.a∧x.a≤x.b∧x.b<n∧1≤x.m∧x.m≤50
theorem A5U {n:Int} {es:List E} {i:Nat} (hi:i<es.length):A44 n es i=0↔okE n es[i]∧ ∀j (hj:j+1=i),ltE (es[j]'(by omega)) es[i]:=by
 unfold A44 okE ltE;rw [Qq hi];simp only;by_cases h1: ¬(0≤es[i].a∧es[i].a<n)∨ ¬(0≤es[i].b∧es[i].b<n)∨es[i].m<1∨50<es[i].m
 ·rw [if_pos h1]; constructor
  ·intro h; omega
  ·rintro ⟨h,_⟩; omega
 ·rw [if_neg h1];by_cases h2:es[i].b<es[i].a
  ·rw [if_pos h2]; constructor
   ·intro h; omega
   ·rintro ⟨h,_⟩; omega
  ·rw [if_neg h2];cases i with
   | zero=>simp only [true_iff]; exact ⟨by omega,fun j hj=>by omega⟩
   | succ j=>
    have hj:j<es.length:=by omega
    simp only [Qq hj];constructor
    ·intro h;split at h
     ·omega
     ·refine ⟨by omega,fun j' e=> ?_⟩;have:j'=j:=by omega
      subst this; omega
    ·rintro ⟨h,h3⟩;have:=h3 j rfl;rw [if_neg (by omega)]
theorem A0j {g:G}:checkG g=0↔(1≤g.n∧g.n≤12)∧(∀e,e∈g.es->okE g.n e)∧g.es.Pairwise ltE:=by
 unfold checkG;by_cases h1:g.n<1∨12<g.n
 ·rw [if_pos h1]; constructor
  ·intro h; omega
  ·rintro ⟨h,_⟩; omega
 ·rw [if_neg h1,B2M (QQ _),Jz];constructor
  ·intro h;refine ⟨by omega,fun e he=> ?_,?_⟩
   ·obtain ⟨i,hi,rfl⟩:=Vq.1 he;exact ((A5U hi).1 (h i (Xj _) hi)).1
   ·rw [YX];intro i j hi hj hij;have step: ∀d (hd:i+1+d<g.es.length),ltE g.es[i] g.es[i+1+d]:=by
     intro d
     induction d with
     | zero=>intro hd; exact ((A5U hd).1 (h _ (Xj _) hd)).2 i (by omega)
     | succ d ih=>
      intro hd;have h2:=ih (by omega);have h3:=((A5U hd).1 (h _ (Xj _) hd)).2 (i+1+d) (by omega);unfold ltE at*; omega
    have:=step (j-(i+1)) (by omega);have e:i+1+(j-(i+1))=j:=by omega
    simp only [e] at this;exact this
  ·rintro ⟨_,h2,h3⟩ i _ hi;rw [YX] at h3;exact (A5U hi).2 ⟨h2 _ (Xv hi),fun j hj=>h3 j i (by omega) hi (by omega)⟩
theorem A5V {es:List E} (h: ∀e,e∈es->e.m≤50):(endsL es).length≤50*es.length:=by
 induction es with
 | nil=>simp [endsL]
 | cons x xs ih=>
  have h1:=h x (by simp);have h2:=ih fun e he=>h e (by simp [he]);have e:endsL (x::xs)=endsL [x]++endsL xs:=by rw [<-A3n]; rfl
  rw [e,Xw,B16,Yq,List.length_cons]; omega
structure Sm (g:G):Prop where
 es:g.es.length<2^40
 m: ∀e,e∈g.es->e.m<2^40
 s:(endsL g.es).length<2^40
theorem B5p {g:G} (hl:g.es.length<2^30) (h:checkG g=0):Sm g:=by
 obtain ⟨_,h2,_⟩:=A0j.1 h;refine ⟨by omega,fun e he=> ?_,?_⟩
 ·have:=h2 e he; unfold okE at this; omega
 ·have:=A5V (es:=g.es) fun e he=>by have:=h2 e he; unfold okE at this; omega
  omega
def A0B (l:List (Int×Int)):TVal:= .t (.slice (A1b l))
attribute [go_sem] A0B
theorem B2N (g:G) (hl:g.es.length<2^30):ACall Tryz.prog 122 [tG g] (if checkG g≠0 then .tup [.t (.slice []),A0m (checkG g)] else .tup [A0B (endsL g.es),A0m 0]):=by
 refine ACall.of_body Tryz.func122 rfl (by kernel_rfl) ?_;simp only [entry,Tryz.ntmps122,tG];refine zU ?_
 repeat' (first|((first|(refine zT ?_;intro K' hK')|(refine zG ?_ ?_<;>(try refine zH ?_)<;>intro hguard<;>(try exact zX)<;>try intro K' hK'))<;>((try simp+contextual only [go_sem]);(repeat' first|(with_reducible refine hK' _ _ ?_;clear hK' K')|((with_reducible first|refine zL (c:=A71 g (by omega)) (q:=?_)|refine zK (A90 g) ?_);try simp+contextual only [go_sem])|exact zY|with_reducible refine Qw7 ?_ ?_|(with_reducible intro hpath;try exact zP)|(refine hK' _ _ ?_;clear hK' K')|fail);try refine zS ?_))|(refine zE ?_;refine hK _ _ ?_;clear hK K)|(refine zN ?_;try refine zS ?_)|refine zA ?_|(refine zB ?_;intro K hK)|(refine zC ?_ ?_<;>(try refine zH ?_)<;>intro hcond<;>try exact zX)|fail)
 ·rw [if_pos (by assumption)];simp [A0z,A0y,Blk.cells,ty,Tryz.results122,A0t,A0u,toT,A0d,A0b,A0c,A0a,A0m]
 ·
  rw [if_neg (by omega)];have hs:=B5p hl (by omega);refine AWp.weak (Weak.openB 1 0 2 rfl rfl (by omega)) ?_;simp only [List.set_cons_succ,List.set_cons_zero,List.length_cons,List.length_nil,Xw,Nat.reduceAdd,List.cons_append,List.nil_append];refine AWp.weak (Weak.head (m:=3) (by omega) ((fun t f=>[f,t,f,f,f,t,f,f,f,f,f,f,f,f,t,f,f,f,f,f,f,f,f,f,f,f]) true false) (by first | rfl | simp [mask]) (by first | rfl | simp) (by (repeat' (first | exact A0l _ | refine A0i ?_ ?_ | refine A0g ?_ ?_ | exact A0h _ | exact Qw6 | (show _<_; omega) | (intro c hc; cases hc; done) | (intro c hc; simp only [Qw,Qv,or_false] at hc; subst hc; first | exact Qw6 | (show _<_; omega)) | (intro c hc; simp only [Qw,Qv,or_false] at hc; rcases hc with rfl | rfl<;>first | exact Qw6 | (show _<_; omega))))) (by (repeat' (first | exact A0l _ | exact A0r _ | exact A0h _ | refine Qw7 ?_ ?_ | refine A0i ?_ ?_ | refine A0k ?_ ?_ | refine A0g ?_ ?_ | exact Qw6 | (show _<_; omega) | exact A0p (fun _=>Qw6) | (intro c hc; cases hc; done) | (intro c hc; simp only [Qw,Qv,or_false] at hc; subst hc; first | exact Qw6 | (show _<_; omega)) | (intro c hc; simp only [Qw,Qv,or_false] at hc; rcases hc with rfl | rfl<;>first | exact Qw6 | (show _<_; omega)))))) (AWp.rangeFunc (fun k H=>H=[.box [.int .i64 g.n,.slice (A0f g.es) .none],.box [.slice (A1b ((endsL g.es).take k)) (.chain 2)],.chain ((endsL g.es).take k).length 2]∧(True)) (fun _ _=>False) 3 rfl (A8m g hs.s hs.es hs.m) (B19 rfl) (by omega) (by (repeat' (first | exact A0l _ | refine A0i ?_ ?_ | refine A0g ?_ ?_ | exact A0h _ | exact Qw6 | (show _<_; omega) | (intro c hc; cases hc; done) | (intro c hc; simp only [Qw,Qv,or_false] at hc; subst hc; first | exact Qw6 | (show _<_; omega)) | (intro c hc; simp only [Qw,Qv,or_false] at hc; rcases hc with rfl | rfl<;>first | exact Qw6 | (show _<_; omega))))) (by rintro _ _ ⟨rfl,-⟩; simp) (fun _ _ h=>h.elim) ?_ (fun l k ts H hts hI=> ?_) (fun H hI=> ?_) (fun e H h=>h.elim))
  ·exact ⟨rfl,trivial⟩
  ·obtain ⟨rfl,-⟩:=hI;obtain ⟨p,hp,rfl⟩:=A6D hts;simp only [mask,A4e,List.zip_cons_cons,WQ,List.zip_nil_left,List.foldl_cons,List.foldl_nil,List.set_cons_succ,List.set_cons_zero,ofT,A2G,A03,Xy,Zx,ofT,A2G,toT,A0u,A0a,A0m,A0v,A3a,tG];have hk:k<(endsL g.es).length:=(Qx.1 hp).1;have hkl:((endsL g.es).take k).length=k:=by rw [Wz]; omega
   have:=hs.s;refine zRc (zc @A05 (zc @A9w (zc @hkl Qw8))) Qw8 @A5R ?_;refine ⟨⟨_,_⟩,Weak.head2 (m:=3) (by decide) ((fun t f=>[f,f,f,f,f,f,f,f,f,f,f,f,f,f,f,f,f,f,f,f,f,f,f,f,f,f]) true false) rfl rfl zW,?_,?_⟩
   ·simp [take_snoc hp,hkl]
   ·trivial
  ·obtain ⟨rfl,-⟩:=hI;simp only [mask];refine zR Qw8 Qw8 Qw8 ?_;simp [A0z,A0y,Blk.cells,ty,Tryz.results122,A0t,A0u,toT,A0d,A0b,A0c,A0a,A0m,A0B,A6C]
open Go.Sort (SWO)
instance:Inhabited E:=⟨⟨0,0,0⟩⟩
def C4O (a b c d:Int):Int:=orI [A59 a c,A59 b d]
def cfE (x y:E):Int:=C4O x.a x.b y.a y.b
theorem C0e (x y:E):ACall Tryz.prog 178 [.agg (C0a x),.agg (C0a y)] (.t (.int .i64 (cfE x y))):=by
 refine ACall.of_body Tryz.func178 rfl (by kernel_rfl) ?_;simp only [entry,Tryz.ntmps178,C0a];refine zU ?_
 repeat' (first|((first|(refine zT ?_;intro K' hK')|(refine zG ?_ ?_<;>(try refine zH ?_)<;>intro hguard<;>(try exact zX)<;>try intro K' hK'))<;>((try simp+contextual only [go_sem]);(repeat' first|(with_reducible refine hK' _ _ ?_;clear hK' K')|(with_reducible refine zK (A9v _ _ _ _) ?_;try simp+contextual only [go_sem])|exact zY|with_reducible refine Qw7 ?_ ?_|(with_reducible intro hpath;try exact zP)|(refine hK' _ _ ?_;clear hK' K')|fail);try refine zS ?_))|(refine zE ?_;refine hK _ _ ?_;clear hK K)|(refine zN ?_;try refine zS ?_)|refine zA ?_|(refine zB ?_;intro K hK)|(refine zC ?_ ?_<;>(try refine zH ?_)<;>intro hcond<;>try exact zX)|fail)
 simp [A0z,A0y,Blk.cells,ty,Tryz.results178,A0t,A0u,toT,A0d,A0b,A0c,A0a,cfE,C4O,A0m]
theorem A72 (x y:E):Go.Proofs.ltOf cfE x y=true↔ltE x y:=by
 unfold Go.Proofs.ltOf cfE C4O orI orI A59 ltE;simp only [decide_eq_true_eq]
 (repeat' split)<;>simp_all [orI]<;>omega
theorem C4P:SWO (Go.Proofs.ltOf cfE) where
 irrefl x:=by
  rw [<-Qq5,A72]; unfold ltE; omega
 trans x y z h1 h2:=by
  rw [A72] at*; unfold ltE at*; omega
 ntrans x y z h1 h2:=by
  rw [<-Qq5,A72] at*; unfold ltE at*; omega
noncomputable def A2Q (es:List E):List E:=A4z cfE es
def neE (x y:E):Prop:= ¬(x.a=y.a∧x.b=y.b)
theorem neE.symm {x y:E} (h:neE x y):neE y x:=by unfold neE at*; omega
def distinctE (es:List E):Prop:=es.Pairwise neE
theorem A1u (es:List E):(A2Q es).Perm es:=(A35 C4P es).1
theorem A2t {es:List E} (h:distinctE es):(A2Q es).Pairwise ltE:=by
 have h1:distinctE (A2Q es):=(Qx2 neE.symm (A1u es)).2 h;unfold distinctE at h1;rw [YX] at h1 ⊢;intro i j hi hj hij;have h2:=(A35 C4P es).2 i j _ _ hij (Qq hi) (Qq hj);rw [<-Qq5,A72] at h2;have h3:=h1 i j hi hj hij;unfold ltE neE at*;simp only [A2Q] at*;omega
theorem A3P {l l':List E} (h:l.Pairwise ltE) (h':l'.Pairwise ltE) (hp:l.Perm l'):l=l':=
 Qj6 (le:=ltE) (fun a b _ _ h1 h2=>by unfold ltE at*; omega) h h' hp
theorem C0f {l es:List E} (h:l.Pairwise ltE) (hp:l.Perm es):A2Q es=l:=by
 have hd:distinctE es:=by
  refine (Qx2 neE.symm hp).1 ?_;exact h.imp fun {x y} h=>by unfold ltE at h; unfold neE; omega
 exact A3P (A2t hd) h ((A1u es).trans hp.symm)
theorem B2O {l es:List E} (hd:distinctE es) (hp:l.Perm es):A2Q l=A2Q es:=by
 have hd':distinctE l:=(Qx2 neE.symm hp.symm).1 hd;exact A3P (A2t hd') (A2t hd) ((A1u l).trans (hp.trans (A1u es).symm))
end Go.Proofs.YtdbdfkohpjefjaaGreat
namespace Go.Proofs.YtdbdfkohpjefjaaGreat
open Go.Sp Go.RowKit
theorem C4Q: ∀w,(isAgg 132).run Tryz.prog w= .ok true w:=fun w=>by
 have h:A1E Tryz.prog 132=some true:=by simp only [ty]
 simp [B0d h]
theorem C3G: ∀w,(Go.sizeOf 132).run Tryz.prog w= .ok 3 w:=fun w=>by
 have h:A00 Tryz.prog 132=some 3:=by simp only [ty]
 exact A1G h w
theorem B7h: ∀args w,(callFunc 177 args).run Tryz.prog w= .ok (.enter 177 args) w:=Go.Proofs.enters_of Tryz.func177 (by kernel_rfl) rfl
theorem B7i (e:E):A1f (C0a e)=true:=rfl
theorem B3W (es:List E) (hl:es.length<2^60) {H:List Blk} {id cap:Nat} (hid:H[id]? =some (.box (flatRows (A0f es)))):
  ACallH Tryz.prog 177 H [.c (.ref id 3 0 es.length cap),.c (.fn 178 [])] (H.set id (.box (flatRows (A0f (A2Q es))))) (.tup []):=
 B0q laySortE C0a 3 C4Q C3G (fun _=>rfl) B7i cfE C4P 178 C0e B7h es (by omega) hid
theorem B5q:ACall Tryz.prog 177 [.t (.slice []),.t (.fn 178 [])] (.tup []):=by
 refine ⟨B7h,fun S w vs hl hv=> ?_⟩
 match vs,hl with
 | [v0,v1],_=>
 have h0:TRel S w (.slice []) v0:=hv 0 _ v0 rfl rfl;have key: ∀a c,Calls Tryz.prog 177 #[.slice a 0 c,v1] w fun e w'=> ∃v,e= .returned v∧TVRel (fun b o=>S b o∨w.heap.size≤b) w' (.tup []) v∧Below w.heap.size w w'∧w.drawn≤w'.drawn:=fun a c=>by
  refine (Go.Proofs.AnyF.slices_SortFunc_none laySortE a c v1 w).mono ?_;rintro e w' ⟨rfl,rfl⟩;exact ⟨_,rfl,⟨#[],rfl,rfl,by simp⟩,Below.refl _ _,QQ _⟩
 cases h0 with
 | nil a c=>exact key a c
 | slice b off k c rows cell hn hk hc hr=>exact key _ c
end Go.Proofs.YtdbdfkohpjefjaaGreat
namespace Go.Proofs.YtdbdfkohpjefjaaGreat
open Go.Sp
end Go.Proofs.YtdbdfkohpjefjaaGreat
