/- A part of the proof. -/
import Derived.Test.YtdbdfkohpjefjaaGreatPart01
import Derived.Test.YtdbdfkohpjefjaaGreatLayerD
set_option linter.all false
set_option maxHeartbeats 4000000
set_option maxRecDepth 100000
namespace Go.Proofs.YtdbdfkohpjefjaaGreat
section
open Go.Sp Go.RowKit
end
open Go.Sp
def C0Z (v:Int) (e:E):Option (Int×Int):=if e.a≠e.b∧(e.a=v∨e.b=v) then some (e.a+e.b-v,e.m) else none
def lnkL (es:List E) (v:Int):List (Int×Int):=es.filterMap (C0Z v)
def A6q (l:List (Int×Int)):List (List TVal):=l.map fun p=>[A0k p.1,A0k p.2]
theorem A6Y (l:List (Int×Int)):(A6q l).length=l.length:=by simp [A6q]
theorem B6a {l:List (Int×Int)} {i:Nat} {p:Int×Int} (h:l[i]? =some p):(A6q l)[i]? =some [A0k p.1,A0k p.2]:=by
 simp [A6q,h]
theorem A6Z {l:List (Int×Int)} {i:Nat} {ts:List TVal} (h:(A6q l)[i]? =some ts): ∃p,l[i]? =some p∧ts=[A0k p.1,A0k p.2]:=by
 simp only [A6q,QY] at h;cases hl:l[i]? with
 | none=>simp [hl] at h
 | some p=>simp [hl] at h; exact ⟨p,rfl,h.symm⟩
theorem B7X {es:List E} {v:Int} {i:Nat} (h:i<es.length):lnkL (es.take (i+1)) v=lnkL (es.take i) v++(C0Z v es[i]).toList:=by
 unfold lnkL;rw [XX h,Qx9,List.filterMap_cons,List.filterMap_nil];cases hx:C0Z v es[i]<;>rfl
theorem B6b {es:List E} {v:Int} {i:Nat} (h:i<es.length):lnkL es v=lnkL (es.take i) v++((C0Z v es[i]).toList++lnkL (es.drop (i+1)) v):=by
 have e:es=es.take i++es[i]::es.drop (i+1):=by rw [<-XV h,WJ]
 conv=>lhs; rw [e]
 unfold lnkL;rw [Qx9,List.filterMap_cons];cases hx:C0Z v es[i]<;>simp [hx]
theorem B1T (n:Int) (es:List E) (v:Int) (hl:es.length<2^40) (hm: ∀e,e∈es->(0≤e.a∧e.a<2^40)∧(0≤e.b∧e.b<2^40)) (hv:0≤v∧v<2^40):
  AIter Tryz.prog 201 [.rptr [.rptr [.int .i64 n,.slice (A0f es)]],.rptr [.int .i64 v]] (A6q (lnkL es v)):=by
 refine AIter.of_body Tryz.func201 rfl (by kernel_rfl) rfl (fun l J Jx hJ hJx hY=> ?_);simp only [entry,Tryz.ntmps201,ofT,A2T,A04,Xk,Zj,List.length_cons,List.length_nil,Nat.reduceAdd,Nat.reduceSub,List.replicate_succ,List.replicate_zero,List.cons_append,List.nil_append];refine zR (zc @A06 Qw9) Qw9 Qw9 ?_;refine AWp.loopS (α:=Nat) 50 (fun i=>[(0,.c (.yld l)),(1,.c (.rptr [.rptr [.int .i64 n,.slice (A0f es)]])),(2,.c (.rptr [.int .i64 v])),(11,.c (.slice (A0f es) .none)),(12,.c (.int .i64 (es.length:Int))),(13,.c (.int .i64 (i:Int)))]) (fun i=>[.ghost (J (lnkL (es.take i) v).length)]) (fun i=>i≤es.length) (fun i=>es.length-i) (0) (hk:=Weak.headL 1 50 [0,1,2,11,12,13] zW) (h0:=?_) (round:=fun i hI=>?_)
 ·exact Xj _
 ·have hi:i≤es.length:=hI;clear hI;by_cases hlt:i<es.length
  ·have hltI:(i:Int)<(es.length:Int):=by omega
   have e1:es[i]? =some es[i]:=Qq hlt;have e2:=A2e e1;have hmi:=hm es[i] (Xw hlt);have hts:=B7X (v:=v) hlt;have hsp:=B6b (v:=v) hlt
   have hgk: ∀p,C0Z v es[i]=some p->(A6q (lnkL es v))[(lnkL (es.take i) v).length]? =some [A0k p.1,A0k p.2]:=fun p hp=>B6a (by
    rw [hsp,hp,QV (QQ _)]; simp)
   generalize es[i]=e at*;generalize hLi:lnkL (es.take i) v=Li at*;generalize hLi1:lnkL (es.take (i+1)) v=Li1 at*;clear hsp;obtain ⟨a,b,m⟩:=e;unfold C0Z at hts hgk;simp only at hts hgk hmi;by_cases hab:a=b
   ·rw [if_neg (fun q=>q.1 hab),Option.toList_none,WZ] at hts;refine zR (zc @hltI (zc @e2 (zc @hab (zc @A06 Qw9)))) Qw9 Qw9 ?_;refine ⟨i+1,Weak.headF 1 50 [0,1,2,11,12,13] (zc @hLi1 (zc @hts Qw9)) zW,?_,?_⟩
    ·exact hlt
    ·omega
   ·by_cases hav:a=v
    ·have hg:=hgk _ (if_pos ⟨hab,.inl hav⟩);rw [if_pos ⟨hab,.inl hav⟩] at hts;have hln:Li1.length=Li.length+1:=by rw [hts]; simp
     simp only [hav] at hg
     repeat' (first|((with_reducible refine AWp.seq (AWp.of_reg (id:=4) (AReg.pre 22 (fun K hK=>?_))));simp only [List.take_succ_cons,List.take_zero])|((with_reducible refine AWp.of_reg (id:=4) (AReg.pre 22 (fun K hK=>?_)));simp only [List.take_succ_cons,List.take_zero])|((first|(refine zT ?_;intro K' hK')|(refine zG ?_ ?_<;>(try refine zH ?_)<;>intro hguard<;>(try exact zX)<;>try intro K' hK'))<;>((try simp+contextual only [go_sem,hltI,e2,hab,hav,A06,Int.toNat_natCast]);(repeat' first|(with_reducible refine hK' _ _ ?_;clear hK' K')|exact zY|with_reducible refine Qw8 ?_ ?_|(with_reducible intro hpath;try exact zP)|(refine hK' _ _ ?_;clear hK' K')|fail);try refine zS ?_))|(refine zE ?_;refine hK _ _ ?_;clear hK K)|(refine zN ?_;try refine zS ?_)|refine zA ?_|(refine zB ?_;intro K hK)|(refine zC ?_ ?_<;>(try refine zH ?_)<;>intro hcond<;>try exact zX)|fail)
     simp only [Zw,ZW];refine AReg.yieldG rfl rfl (by rfl) (by rfl) (by with_unfolding_all rfl) (by simp [okBlk]) (hY _ _ hg) (hJ _) hJx ?_ ?_<;>(try refine zS ?_)<;>refine AReg.rest (fun K hK=> ?_)
     ·
      repeat' (first|((first|(refine zT ?_;intro K' hK')|(refine zG ?_ ?_<;>(try refine zH ?_)<;>intro hguard<;>(try exact zX)<;>try intro K' hK'))<;>((try simp+contextual only [go_sem]);(repeat' first|(with_reducible refine hK' _ _ ?_;clear hK' K')|exact zY|with_reducible refine Qw8 ?_ ?_|(with_reducible intro hpath;try exact zP)|(refine hK' _ _ ?_;clear hK' K')|fail);try refine zS ?_))|(refine zE ?_;refine hK _ _ ?_;clear hK K)|(refine zN ?_;try refine zS ?_)|refine zA ?_|(refine zB ?_;intro K hK)|(refine zC ?_ ?_<;>(try refine zH ?_)<;>intro hcond<;>try exact zX)|fail)
      refine ⟨i+1,Weak.headF 1 50 [0,1,2,11,12,13] (zc @hLi1 (zc @hln Qw9)) zW,?_,?_⟩
      ·exact hlt
      ·omega
     ·
      repeat' (first|((first|(refine zT ?_;intro K' hK')|(refine zG ?_ ?_<;>(try refine zH ?_)<;>intro hguard<;>(try exact zX)<;>try intro K' hK'))<;>((try simp+contextual only [go_sem]);(repeat' first|(with_reducible refine hK' _ _ ?_;clear hK' K')|exact zY|with_reducible refine Qw8 ?_ ?_|(with_reducible intro hpath;try exact zP)|(refine hK' _ _ ?_;clear hK' K')|fail);try refine zS ?_))|(refine zE ?_;refine hK _ _ ?_;clear hK K)|(refine zN ?_;try refine zS ?_)|refine zA ?_|(refine zB ?_;intro K hK)|(refine zC ?_ ?_<;>(try refine zH ?_)<;>intro hcond<;>try exact zX)|fail)
      exact ⟨Qw7,_,.inr rfl⟩
    ·by_cases hbv:b=v
     ·have hg:=hgk _ (if_pos ⟨hab,.inr hbv⟩);rw [if_pos ⟨hab,.inr hbv⟩] at hts;have hln:Li1.length=Li.length+1:=by rw [hts]; simp
      simp only [hbv] at hg
      repeat' (first|((with_reducible refine AWp.seq (AWp.of_reg (id:=4) (AReg.pre 22 (fun K hK=>?_))));simp only [List.take_succ_cons,List.take_zero])|((with_reducible refine AWp.of_reg (id:=4) (AReg.pre 22 (fun K hK=>?_)));simp only [List.take_succ_cons,List.take_zero])|((first|(refine zT ?_;intro K' hK')|(refine zG ?_ ?_<;>(try refine zH ?_)<;>intro hguard<;>(try exact zX)<;>try intro K' hK'))<;>((try simp+contextual only [go_sem,hltI,e2,hab,hav,hbv,A06,Int.toNat_natCast]);(repeat' first|(with_reducible refine hK' _ _ ?_;clear hK' K')|exact zY|with_reducible refine Qw8 ?_ ?_|(with_reducible intro hpath;try exact zP)|(refine hK' _ _ ?_;clear hK' K')|fail);try refine zS ?_))|(refine zE ?_;refine hK _ _ ?_;clear hK K)|(refine zN ?_;try refine zS ?_)|refine zA ?_|(refine zB ?_;intro K hK)|(refine zC ?_ ?_<;>(try refine zH ?_)<;>intro hcond<;>try exact zX)|fail)
      simp only [Zw,ZW];refine AReg.yieldG rfl rfl (by rfl) (by rfl) (by with_unfolding_all rfl) (by simp [okBlk]) (hY _ _ hg) (hJ _) hJx ?_ ?_<;>(try refine zS ?_)<;>refine AReg.rest (fun K hK=> ?_)
      ·
       repeat' (first|((first|(refine zT ?_;intro K' hK')|(refine zG ?_ ?_<;>(try refine zH ?_)<;>intro hguard<;>(try exact zX)<;>try intro K' hK'))<;>((try simp+contextual only [go_sem]);(repeat' first|(with_reducible refine hK' _ _ ?_;clear hK' K')|exact zY|with_reducible refine Qw8 ?_ ?_|(with_reducible intro hpath;try exact zP)|(refine hK' _ _ ?_;clear hK' K')|fail);try refine zS ?_))|(refine zE ?_;refine hK _ _ ?_;clear hK K)|(refine zN ?_;try refine zS ?_)|refine zA ?_|(refine zB ?_;intro K hK)|(refine zC ?_ ?_<;>(try refine zH ?_)<;>intro hcond<;>try exact zX)|fail)
       refine ⟨i+1,Weak.headF 1 50 [0,1,2,11,12,13] (zc @hLi1 (zc @hln Qw9)) zW,?_,?_⟩
       ·exact hlt
       ·omega
      ·
       repeat' (first|((first|(refine zT ?_;intro K' hK')|(refine zG ?_ ?_<;>(try refine zH ?_)<;>intro hguard<;>(try exact zX)<;>try intro K' hK'))<;>((try simp+contextual only [go_sem]);(repeat' first|(with_reducible refine hK' _ _ ?_;clear hK' K')|exact zY|with_reducible refine Qw8 ?_ ?_|(with_reducible intro hpath;try exact zP)|(refine hK' _ _ ?_;clear hK' K')|fail);try refine zS ?_))|(refine zE ?_;refine hK _ _ ?_;clear hK K)|(refine zN ?_;try refine zS ?_)|refine zA ?_|(refine zB ?_;intro K hK)|(refine zC ?_ ?_<;>(try refine zH ?_)<;>intro hcond<;>try exact zX)|fail)
       exact ⟨Qw7,_,.inr rfl⟩
     ·rw [if_neg (fun q=>q.2.elim hav hbv),Option.toList_none,WZ] at hts;refine zR (zc @hltI (zc @e2 (zc @hab (zc @hav (zc @hbv (zc @A06 Qw9)))))) Qw9 Qw9 ?_;refine ⟨i+1,Weak.headF 1 50 [0,1,2,11,12,13] (zc @hLi1 (zc @hts Qw9)) zW,?_,?_⟩
      ·exact hlt
      ·omega
  ·have ei:i=es.length:=by omega
   have hnl: ¬(i:Int)<(es.length:Int):=by omega
   refine zR (zc @hnl (zc @A06 Qw9)) Qw9 Qw9 ?_;exact ⟨Qw7,_,.inl (by rw [A6Y,ei,Zy])⟩
theorem C1a (n:Int) (es:List E) (v:Int):ACall Tryz.prog 185 [.t (.rptr [.int .i64 n,.slice (A0f es)]),A0k v] (.t (.fn 201 [.rptr [.rptr [.int .i64 n,.slice (A0f es)]],.rptr [.int .i64 v]])):=by
 refine ACall.of_body Tryz.func185 rfl (by kernel_rfl) ?_;simp only [entry,Tryz.ntmps185,A0k];refine zU ?_;refine zR Qw9 Qw9 Qw9 ?_;simp [A0y,A0x,Blk.cells,ty,Tryz.results185,A0s,A0t,toT,A0d,A0b,A0c,A0a]
end Go.Proofs.YtdbdfkohpjefjaaGreat
