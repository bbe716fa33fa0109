/- A part of the proof. -/
import Derived.Test.YtdhfgihnoimoaaaPart04
import Derived.Test.YtdhfgihnoimoaaaLayerC
set_option linter.all false
set_option maxHeartbeats 4000000
set_option maxRecDepth 100000
namespace Go.Proofs.Ytdhfgihnoimoaaa
open Go.Sp
def B4f (v:Int) (e:E):Option (Int×Int):=if e.a≠e.b∧(e.a=v∨e.b=v) then some (e.a+e.b-v,e.m) else none
def lnkL (es:List E) (v:Int):List (Int×Int):=es.filterMap (B4f v)
def A5I (l:List (Int×Int)):List (List TVal):=l.map fun p=>[A0g p.1,A0g p.2]
theorem A2G (l:List (Int×Int)):(A5I l).length=l.length:=by simp [A5I]
theorem B3x {l:List (Int×Int)} {i:Nat} {p:Int×Int} (h:l[i]? =some p):(A5I l)[i]? =some [A0g p.1,A0g p.2]:=by
 simp [A5I,h]
theorem A2H {l:List (Int×Int)} {i:Nat} {ts:List TVal} (h:(A5I l)[i]? =some ts): ∃p,l[i]? =some p∧ts=[A0g p.1,A0g p.2]:=by
 simp only [A5I,List.getElem?_map] at h
 cases hl:l[i]? with
 | none=>simp [hl] at h
 | some p=>simp [hl] at h; exact ⟨p,rfl,h.symm⟩
theorem B4M {es:List E} {v:Int} {i:Nat} (h:i<es.length):lnkL (es.take (i+1)) v=lnkL (es.take i) v++(B4f v es[i]).toList:=by
 unfold lnkL
 rw [List.take_succ_eq_append_getElem h,List.filterMap_append,List.filterMap_cons,List.filterMap_nil]
 cases hx:B4f v es[i]<;>rfl
theorem B3y {es:List E} {v:Int} {i:Nat} (h:i<es.length):lnkL es v=lnkL (es.take i) v++((B4f v es[i]).toList++lnkL (es.drop (i+1)) v):=by
 have e:es=es.take i++es[i]::es.drop (i+1):=by rw [←List.drop_eq_getElem_cons h,List.take_append_drop]
 conv=>lhs; rw [e]
 unfold lnkL
 rw [List.filterMap_append,List.filterMap_cons]
 cases hx:B4f v es[i]<;>simp [hx]
theorem A4y (n:Int) (es:List E) (v:Int) (hl:es.length<2^40) (hm: ∀e,e∈es→(0≤e.a∧e.a<2^40)∧(0≤e.b∧e.b<2^40)) (hv:0≤v∧v<2^40):
  AIter Try.prog 126 [.rptr [.rptr [.int .i64 n,.slice (A0b es)]],.rptr [.int .i64 v]] (A5I (lnkL es v)):=by
 refine AIter.of_body Try.func126 rfl (by kernel_rfl) rfl (fun l J Jx hJ hJx hY=> ?_)
 simp only [entry,Try.ntmps126,ofT,A3i,A0x,List.map_cons,List.map_nil,List.length_cons,List.length_nil,Nat.reduceAdd,Nat.reduceSub,List.replicate_succ,List.replicate_zero,List.cons_append,List.nil_append]
 refine zR (zc @A06 trivial) trivial trivial ?_
 refine AWp.loopS (α:=Nat) 50 (fun i=>[(0,.c (.yld l)),(1,.c (.rptr [.rptr [.int .i64 n,.slice (A0b es)]])),(2,.c (.rptr [.int .i64 v])),(11,.c (.slice (A0b es) .none)),(12,.c (.int .i64 (es.length:Int))),(13,.c (.int .i64 (i:Int)))]) (fun i=>[.ghost (J (lnkL (es.take i) v).length)]) (fun i=>i≤es.length) (fun i=>es.length-i) (0) (hk:=A0s.headL 1 50 [0,1,2,11,12,13] zW) (h0:=?_) (round:=fun i hI=>?_)
 ·exact Nat.zero_le _
 ·have hi:i≤es.length:=hI
  clear hI
  by_cases hlt:i<es.length
  ·have hltI:(i:Int)<(es.length:Int):=by omega
   have e1:es[i]? =some es[i]:=List.getElem?_eq_getElem hlt
   have e2:=A2l e1
   have hmi:=hm es[i] (List.getElem_mem hlt)
   have hts:=B4M (v:=v) hlt
   have hsp:=B3y (v:=v) hlt
   have hgk: ∀p,B4f v es[i]=some p→(A5I (lnkL es v))[(lnkL (es.take i) v).length]? =some [A0g p.1,A0g p.2]:=fun p hp=>B3x (by
    rw [hsp,hp,List.getElem?_append_right (Nat.le_refl _)]; simp)
   generalize es[i]=e at*
   generalize hLi:lnkL (es.take i) v=Li at*
   generalize hLi1:lnkL (es.take (i+1)) v=Li1 at*
   clear hsp
   obtain ⟨a,b,m⟩:=e
   unfold B4f at hts hgk
   simp only at hts hgk hmi
   by_cases hab:a=b
   ·rw [if_neg (fun q=>q.1 hab),Option.toList_none,List.append_nil] at hts
    refine zR (zc @hltI (zc @e2 (zc @hab (zc @A06 trivial)))) trivial trivial ?_
    refine ⟨i+1,A0s.headF 1 50 [0,1,2,11,12,13] (zc @hLi1 (zc @hts trivial)) zW,?_,?_⟩
    ·exact hlt
    ·omega
   ·by_cases hav:a=v
    ·have hg:=hgk _ (if_pos ⟨hab,.inl hav⟩)
     rw [if_pos ⟨hab,.inl hav⟩] at hts
     have hln:Li1.length=Li.length+1:=by rw [hts]; simp
     simp only [hav] at hg
     repeat' (first|((with_reducible refine AWp.seq (AWp.of_reg (id:=4) (AReg.pre 22 (fun K hK=>?_))));simp only [List.take_succ_cons,List.take_zero])|((with_reducible refine AWp.of_reg (id:=4) (AReg.pre 22 (fun K hK=>?_)));simp only [List.take_succ_cons,List.take_zero])|((first|(refine zT ?_;intro K' hK')|(refine zG ?_ ?_<;>(try refine zH ?_)<;>intro hguard<;>(try exact zX)<;>try intro K' hK'))<;>((try simp+contextual only [go_sem,hltI,e2,hab,hav,A06,Int.toNat_natCast]);(repeat' first|(with_reducible refine hK' _ _ ?_;clear hK' K')|exact zY|with_reducible refine And.intro ?_ ?_|(with_reducible intro hpath;try exact zP)|(refine hK' _ _ ?_;clear hK' K')|fail);try refine zS ?_))|(refine zE ?_;refine hK _ _ ?_;clear hK K)|(refine zN ?_;try refine zS ?_)|refine zA ?_|(refine zB ?_;intro K hK)|(refine zC ?_ ?_<;>(try refine zH ?_)<;>intro hcond<;>try exact zX)|fail)
     simp only [List.drop_succ_cons,List.drop_zero]
     refine AReg.yieldG rfl rfl (by rfl) (by rfl) (by with_unfolding_all rfl) (by simp [B1u]) (hY _ _ hg) (hJ _) hJx ?_ ?_<;>(try refine zS ?_)<;>refine AReg.rest (fun K hK=> ?_)
     ·
      repeat' (first|((first|(refine zT ?_;intro K' hK')|(refine zG ?_ ?_<;>(try refine zH ?_)<;>intro hguard<;>(try exact zX)<;>try intro K' hK'))<;>((try simp+contextual only [go_sem]);(repeat' first|(with_reducible refine hK' _ _ ?_;clear hK' K')|exact zY|with_reducible refine And.intro ?_ ?_|(with_reducible intro hpath;try exact zP)|(refine hK' _ _ ?_;clear hK' K')|fail);try refine zS ?_))|(refine zE ?_;refine hK _ _ ?_;clear hK K)|(refine zN ?_;try refine zS ?_)|refine zA ?_|(refine zB ?_;intro K hK)|(refine zC ?_ ?_<;>(try refine zH ?_)<;>intro hcond<;>try exact zX)|fail)
      refine ⟨i+1,A0s.headF 1 50 [0,1,2,11,12,13] (zc @hLi1 (zc @hln trivial)) zW,?_,?_⟩
      ·exact hlt
      ·omega
     ·
      repeat' (first|((first|(refine zT ?_;intro K' hK')|(refine zG ?_ ?_<;>(try refine zH ?_)<;>intro hguard<;>(try exact zX)<;>try intro K' hK'))<;>((try simp+contextual only [go_sem]);(repeat' first|(with_reducible refine hK' _ _ ?_;clear hK' K')|exact zY|with_reducible refine And.intro ?_ ?_|(with_reducible intro hpath;try exact zP)|(refine hK' _ _ ?_;clear hK' K')|fail);try refine zS ?_))|(refine zE ?_;refine hK _ _ ?_;clear hK K)|(refine zN ?_;try refine zS ?_)|refine zA ?_|(refine zB ?_;intro K hK)|(refine zC ?_ ?_<;>(try refine zH ?_)<;>intro hcond<;>try exact zX)|fail)
      exact ⟨True.intro,_,.inr rfl⟩
    ·by_cases hbv:b=v
     ·have hg:=hgk _ (if_pos ⟨hab,.inr hbv⟩)
      rw [if_pos ⟨hab,.inr hbv⟩] at hts
      have hln:Li1.length=Li.length+1:=by rw [hts]; simp
      simp only [hbv] at hg
      repeat' (first|((with_reducible refine AWp.seq (AWp.of_reg (id:=4) (AReg.pre 22 (fun K hK=>?_))));simp only [List.take_succ_cons,List.take_zero])|((with_reducible refine AWp.of_reg (id:=4) (AReg.pre 22 (fun K hK=>?_)));simp only [List.take_succ_cons,List.take_zero])|((first|(refine zT ?_;intro K' hK')|(refine zG ?_ ?_<;>(try refine zH ?_)<;>intro hguard<;>(try exact zX)<;>try intro K' hK'))<;>((try simp+contextual only [go_sem,hltI,e2,hab,hav,hbv,A06,Int.toNat_natCast]);(repeat' first|(with_reducible refine hK' _ _ ?_;clear hK' K')|exact zY|with_reducible refine And.intro ?_ ?_|(with_reducible intro hpath;try exact zP)|(refine hK' _ _ ?_;clear hK' K')|fail);try refine zS ?_))|(refine zE ?_;refine hK _ _ ?_;clear hK K)|(refine zN ?_;try refine zS ?_)|refine zA ?_|(refine zB ?_;intro K hK)|(refine zC ?_ ?_<;>(try refine zH ?_)<;>intro hcond<;>try exact zX)|fail)
      simp only [List.drop_succ_cons,List.drop_zero]
      refine AReg.yieldG rfl rfl (by rfl) (by rfl) (by with_unfolding_all rfl) (by simp [B1u]) (hY _ _ hg) (hJ _) hJx ?_ ?_<;>(try refine zS ?_)<;>refine AReg.rest (fun K hK=> ?_)
      ·
       repeat' (first|((first|(refine zT ?_;intro K' hK')|(refine zG ?_ ?_<;>(try refine zH ?_)<;>intro hguard<;>(try exact zX)<;>try intro K' hK'))<;>((try simp+contextual only [go_sem]);(repeat' first|(with_reducible refine hK' _ _ ?_;clear hK' K')|exact zY|with_reducible refine And.intro ?_ ?_|(with_reducible intro hpath;try exact zP)|(refine hK' _ _ ?_;clear hK' K')|fail);try refine zS ?_))|(refine zE ?_;refine hK _ _ ?_;clear hK K)|(refine zN ?_;try refine zS ?_)|refine zA ?_|(refine zB ?_;intro K hK)|(refine zC ?_ ?_<;>(try refine zH ?_)<;>intro hcond<;>try exact zX)|fail)
       refine ⟨i+1,A0s.headF 1 50 [0,1,2,11,12,13] (zc @hLi1 (zc @hln trivial)) zW,?_,?_⟩
       ·exact hlt
       ·omega
      ·
       repeat' (first|((first|(refine zT ?_;intro K' hK')|(refine zG ?_ ?_<;>(try refine zH ?_)<;>intro hguard<;>(try exact zX)<;>try intro K' hK'))<;>((try simp+contextual only [go_sem]);(repeat' first|(with_reducible refine hK' _ _ ?_;clear hK' K')|exact zY|with_reducible refine And.intro ?_ ?_|(with_reducible intro hpath;try exact zP)|(refine hK' _ _ ?_;clear hK' K')|fail);try refine zS ?_))|(refine zE ?_;refine hK _ _ ?_;clear hK K)|(refine zN ?_;try refine zS ?_)|refine zA ?_|(refine zB ?_;intro K hK)|(refine zC ?_ ?_<;>(try refine zH ?_)<;>intro hcond<;>try exact zX)|fail)
       exact ⟨True.intro,_,.inr rfl⟩
     ·rw [if_neg (fun q=>q.2.elim hav hbv),Option.toList_none,List.append_nil] at hts
      refine zR (zc @hltI (zc @e2 (zc @hab (zc @hav (zc @hbv (zc @A06 trivial)))))) trivial trivial ?_
      refine ⟨i+1,A0s.headF 1 50 [0,1,2,11,12,13] (zc @hLi1 (zc @hts trivial)) zW,?_,?_⟩
      ·exact hlt
      ·omega
  ·have ei:i=es.length:=by omega
   have hnl: ¬(i:Int)<(es.length:Int):=by omega
   refine zR (zc @hnl (zc @A06 trivial)) trivial trivial ?_
   exact ⟨True.intro,_,.inl (by rw [A2G,ei,List.take_length])⟩
theorem B62 (n:Int) (es:List E) (v:Int):ACall Try.prog 122 [.t (.rptr [.int .i64 n,.slice (A0b es)]),A0g v] (.t (.fn 126 [.rptr [.rptr [.int .i64 n,.slice (A0b es)]],.rptr [.int .i64 v]])):=by
 refine ACall.of_body Try.func122 rfl (by kernel_rfl) ?_
 simp only [entry,Try.ntmps122,A0g]
 refine zU ?_
 refine zR trivial trivial trivial ?_
 simp [A0E,A0C,Blk.cells,ty,Try.results122,A0y,A05,toT,A0e,A0c,A0d,A0a]
end Go.Proofs.Ytdhfgihnoimoaaa
