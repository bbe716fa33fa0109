/- A part of the proof. -/
import Derived.Test.YtdhfgihnoimoaaaPart01
import Derived.Test.YtdhfgihnoimoaaaLayerC
set_option linter.all false
set_option maxHeartbeats 4000000
set_option maxRecDepth 100000
namespace Go.Proofs.Ytdhfgihnoimoaaa
open Go.Sp
theorem B22 (g:G) (hs:(endsL g.es).length<2^40) (hl:g.es.length<2^40) (hm: ∀e,e∈g.es→e.m<2^40):ACall Try.prog 74 [tG g] (A0g (endsL g.es).length):=by
 refine ACall.of_body Try.func74 rfl (by kernel_rfl) ?_
 simp only [entry,Try.ntmps74,tG]
 refine zU ?_
 repeat' (first|((first|(refine zT ?_;intro K' hK')|(refine zG ?_ ?_<;>(try refine zH ?_)<;>intro hguard<;>(try exact zX)<;>try intro K' hK'))<;>((try simp+contextual only [go_sem,A7J]);(repeat' first|(with_reducible refine hK' _ _ ?_;clear hK' K')|(with_reducible refine zK (B6w g hs hl hm) ?_;try simp+contextual only [go_sem,A7J])|exact zY|with_reducible refine And.intro ?_ ?_|(with_reducible intro hpath;try exact zP)|(refine hK' _ _ ?_;clear hK' K')|fail);try refine zS ?_))|(refine zE ?_;refine hK _ _ ?_;clear hK K)|(refine zN ?_;try refine zS ?_)|refine zA ?_|(refine zB ?_;intro K hK)|(refine zC ?_ ?_<;>(try refine zH ?_)<;>intro hcond<;>try exact zX)|fail)
 all_goals
  simp [A0E,A0C,Blk.cells,ty,Try.results74,A0y,A05,toT,A0e,A0c,A0d,A0a,A0g]
def A6p (es:List E):Nat→Int×Int
 | 0=>(-1,-1)
 | j+1=>match es[j]? with
  | some y=>(y.a,y.b)
  | none=>(-1,-1)
def B4e (n:Int) (x:E):Prop:= ¬(0≤x.a∧x.a<n)∨ ¬(0≤x.b∧x.b<n)∨x.m<1∨50<x.m
theorem A5C {n:Int} {es:List E} {i:Nat} (hi:i<es.length) (h:B4e n es[i]):A4w n es i=2:=by
 unfold A4w; rw [List.getElem?_eq_getElem hi]; exact if_pos h
theorem A89 {n:Int} {es:List E} {i:Nat} (hi:i<es.length) (h: ¬B4e n es[i]) (h2:es[i].b<es[i].a∨0≤orI [B4E (A6p es i).1 es[i].a,B4E (A6p es i).2 es[i].b]):A4w n es i=9:=by
 unfold A4w; rw [List.getElem?_eq_getElem hi]
 simp only
 unfold B4e at h
 rw [if_neg h]
 by_cases hb:es[i].b<es[i].a
 ·rw [if_pos hb]
 ·rw [if_neg hb]
  rcases h2 with h2 | h2
  ·exact absurd h2 hb
  ·cases i with
   | zero=>exfalso; simp only [A6p,orI,B4E] at h2; (repeat' split at h2)<;>omega
   | succ j=>
    have hj:j<es.length:=by omega
    simp only [A6p,List.getElem?_eq_getElem hj,orI,B4E] at h2 ⊢
    rw [if_pos]
    (repeat' split at h2)<;>omega
theorem B3t {n:Int} {es:List E} {i:Nat} (hi:i<es.length) (h: ¬B4e n es[i]) (h1: ¬es[i].b<es[i].a) (h2: ¬0≤orI [B4E (A6p es i).1 es[i].a,B4E (A6p es i).2 es[i].b]):A4w n es i=0:=by
 unfold A4w; rw [List.getElem?_eq_getElem hi]
 simp only
 unfold B4e at h
 rw [if_neg h,if_neg h1]
 cases i with
 | zero=>rfl
 | succ j=>
  have hj:j<es.length:=by omega
  simp only [A6p,List.getElem?_eq_getElem hj,orI,B4E] at h2 ⊢
  rw [if_neg]
  (repeat' split at h2)<;>omega
theorem A9q (g:G) (hl:g.es.length<2^40):ACall Try.prog 77 [tG g] (A0g (checkG g)):=by
 refine ACall.of_body Try.func77 rfl (by kernel_rfl) ?_
 simp only [entry,Try.ntmps77,tG]
 refine zU ?_
 repeat' (first|((first|(refine zT ?_;intro K' hK')|(refine zG ?_ ?_<;>(try refine zH ?_)<;>intro hguard<;>(try exact zX)<;>try intro K' hK'))<;>((try simp+contextual only [go_sem,A06]);(repeat' first|(with_reducible refine hK' _ _ ?_;clear hK' K')|exact zY|with_reducible refine And.intro ?_ ?_|(with_reducible intro hpath;try exact zP)|(refine hK' _ _ ?_;clear hK' K')|fail);try refine zS ?_))|(refine zE ?_;refine hK _ _ ?_;clear hK K)|(refine zN ?_;try refine zS ?_)|refine zA ?_|(refine zB ?_;intro K hK)|(refine zC ?_ ?_<;>(try refine zH ?_)<;>intro hcond<;>try exact zX)|fail)
 ·
  simp [A0E,A0C,Blk.cells,ty,Try.results77,A0y,A05,toT,A0e,A0c,A0d,A0a,A0g,checkG]
  all_goals omega
 ·
  refine AWp.loopS (α:=Nat) 67 (fun i=>[(1,.c (.ptr 0 0)),(3,.c (.ptr 1 0)),(17,.c (.slice (A0b g.es) .none)),(18,.c (.int .i64 g.es.length)),(19,.c (.int .i64 (i:Int)))]) (fun i=>[.box [.int .i64 g.n,.slice (A0b g.es) .none],.box [.int .i64 (A6p g.es i).1,.int .i64 (A6p g.es i).2]]) (fun i=>i≤g.es.length∧checkG g=A4x g.n g.es (g.es.length-i)) (fun i=>g.es.length-i) (0) (hk:=A0s.headL 2 67 [1,3,17,18,19] zW) (h0:=?_) (round:=fun i hI=>?_)
  ·exact ⟨Nat.zero_le _,by simp only [checkG,Nat.sub_zero]; rw [if_neg (by omega)]⟩
  ·obtain ⟨hi,hx⟩:=hI
   by_cases hlt:i<g.es.length
   ·have es:g.es.length-i=(g.es.length-(i+1))+1:=by omega
    have ei:g.es.length-(g.es.length-(i+1)+1)=i:=by omega
    rw [es,A4x,ei] at hx
    have e1:g.es[i]? =some g.es[i]:=List.getElem?_eq_getElem hlt
    have e2:=A2l e1
    repeat' (first|((first|(refine zT ?_;intro K' hK')|(refine zG ?_ ?_<;>(try refine zH ?_)<;>intro hguard<;>(try exact zX)<;>try intro K' hK'))<;>((try simp+contextual only [go_sem,e2,Int.toNat_natCast]);(repeat' first|(with_reducible refine hK' _ _ ?_;clear hK' K')|((with_reducible first|refine zK (B4D _ _) ?_|refine zK (B3r _ _ _ _) ?_);try simp+contextual only [go_sem,e2,Int.toNat_natCast])|exact zY|with_reducible refine And.intro ?_ ?_|(with_reducible intro hpath;try exact zP)|(refine hK' _ _ ?_;clear hK' K')|fail);try refine zS ?_))|(refine zE ?_;refine hK _ _ ?_;clear hK K)|(refine zN ?_;try refine zS ?_)|refine zA ?_|(refine zB ?_;intro K hK)|(refine zC ?_ ?_<;>(try refine zH ?_)<;>intro hcond<;>try exact zX)|fail)
    ·have h2:checkG g=2:=by rw [hx,A5C hlt (by unfold B4e; omega),if_pos (by decide)]
     simp [A0E,A0C,Blk.cells,ty,Try.results77,A0y,A05,toT,A0e,A0c,A0d,A0a,A0g,h2]
    ·have h9:checkG g=9:=by rw [hx,A89 hlt (by unfold B4e; omega) (by first | exact .inl (by assumption) | exact .inr (by assumption)),if_pos (by decide)]
     simp [A0E,A0C,Blk.cells,ty,Try.results77,A0y,A05,toT,A0e,A0c,A0d,A0a,A0g,h9]
    ·have h0:A4w g.n g.es i=0:=B3t hlt (by unfold B4e; omega) (by omega) (by omega)
     refine ⟨i+1,A0s.headN 2 67 [1,3,17,18,19] zW (e1:=by first|rfl|(simp [mask,A1Q,A6p,e1];done)|(simp [mask,A1Q,A6p,e1]<;>simp_all<;>omega)) (e2:=by first|rfl|(simp [mask,A1Q,A6p,e1];done)|(simp [mask,A1Q,A6p,e1]<;>simp_all<;>omega)),?_,?_⟩
     ·exact ⟨hlt,by rw [hx,if_neg (by omega)]⟩
     ·omega
    ·have h9:checkG g=9:=by rw [hx,A89 hlt (by unfold B4e; omega) (by first | exact .inl (by assumption) | exact .inr (by assumption)),if_pos (by decide)]
     simp [A0E,A0C,Blk.cells,ty,Try.results77,A0y,A05,toT,A0e,A0c,A0d,A0a,A0g,h9]
    ·have h2:checkG g=2:=by rw [hx,A5C hlt (by unfold B4e; omega),if_pos (by decide)]
     simp [A0E,A0C,Blk.cells,ty,Try.results77,A0y,A05,toT,A0e,A0c,A0d,A0a,A0g,h2]
    ·have h2:checkG g=2:=by rw [hx,A5C hlt (by unfold B4e; omega),if_pos (by decide)]
     simp [A0E,A0C,Blk.cells,ty,Try.results77,A0y,A05,toT,A0e,A0c,A0d,A0a,A0g,h2]
    ·have h2:checkG g=2:=by rw [hx,A5C hlt (by unfold B4e; omega),if_pos (by decide)]
     simp [A0E,A0C,Blk.cells,ty,Try.results77,A0y,A05,toT,A0e,A0c,A0d,A0a,A0g,h2]
   ·have ei:i=g.es.length:=by omega
    have h0:checkG g=0:=by rw [hx,ei,Nat.sub_self,A4x]
    refine zR (zc @A06 (zc @Int.ofNat_lt trivial)) trivial trivial ?_
    simp [A0E,A0C,Blk.cells,ty,Try.results77,A0y,A05,toT,A0e,A0c,A0d,A0a,A0g,h0]
 ·
  simp [A0E,A0C,Blk.cells,ty,Try.results77,A0y,A05,toT,A0e,A0c,A0d,A0a,A0g,checkG]
  all_goals omega
def A6F (l:List (Int×Int)):List (List TVal):=l.zipIdx.map fun p=>[A0g (p.2:Int),A5l p.1.1 p.1.2]
theorem A8A (l:List (Int×Int)):(A6F l).length=l.length:=by simp [A6F]
theorem B3u {l:List (Int×Int)} {i:Nat} {p:Int×Int} (h:l[i]? =some p):(A6F l)[i]? =some [A0g (i:Int),A5l p.1 p.2]:=by
 simp [A6F,h]
theorem A8B {l:List (Int×Int)} {i:Nat} {ts:List TVal} (h:(A6F l)[i]? =some ts): ∃p,l[i]? =some p∧ts=[A0g (i:Int),A5l p.1 p.2]:=by
 simp only [A6F,List.getElem?_map,List.getElem?_zipIdx] at h
 cases hl:l[i]? with
 | none=>simp [hl] at h
 | some p=>simp [hl] at h; exact ⟨p,rfl,h.symm⟩
theorem B4F {es:List E} {i k:Nat} (h:i<es.length) (hk:k<(es[i]'h).m.toNat):(endsL es)[(endsL (es.take i)).length+k]? =some (es[i].a,es[i].b):=by
 have e:endsL es=endsL (es.take i)++(List.replicate es[i].m.toNat (es[i].a,es[i].b)++endsL (es.drop (i+1))):=by
  rw [←List.append_assoc,←A1y h,←A3l,List.take_append_drop]
 rw [e,List.getElem?_append_right (by omega),Nat.add_sub_cancel_left,List.getElem?_append_left (by rw [List.length_replicate]; exact hk)]
 rw [List.getElem?_replicate,if_pos hk]
theorem B18 (g:G) (hs:(endsL g.es).length<2^40) (hl:g.es.length<2^40) (hm: ∀e,e∈g.es→e.m<2^40):AIter Try.prog 100 [.rptr [.int .i64 g.n,.slice (A0b g.es)]] (A6F (endsL g.es)):=by
 refine AIter.of_body Try.func100 rfl (by kernel_rfl) rfl (fun l J Jx hJ hJx hY=> ?_)
 simp only [entry,Try.ntmps100,ofT,A3i,A0x,List.map_cons,List.map_nil,List.length_cons,List.length_nil,Nat.reduceAdd,Nat.reduceSub,List.replicate_succ,List.replicate_zero,List.cons_append,List.nil_append]
 refine zR (zc @A06 trivial) trivial trivial ?_
 refine AWp.loopS (α:=Nat) 30 (fun i=>[(0,.c (.yld l)),(1,.c (.rptr [.int .i64 g.n,.slice (A0b g.es)])),(3,.c (.int .i64 ((endsL (g.es.take i)).length:Int))),(7,.c (.slice (A0b g.es) .none)),(8,.c (.int .i64 (g.es.length:Int))),(9,.c (.int .i64 (i:Int)))]) (fun i=>[.ghost (J (endsL (g.es.take i)).length)]) (fun i=>i≤g.es.length) (fun i=>g.es.length-i) (0) (hk:=A0s.headL 1 30 [0,1,3,7,8,9] zW) (h0:=?_) (round:=fun i hI=>?_)
 ·exact Nat.zero_le _
 ·by_cases hlt:i<g.es.length
  ·have e1:g.es[i]? =some g.es[i]:=List.getElem?_eq_getElem hlt
   have e2:=A2l e1
   have hle:=A5A g.es (i+1)
   rw [A1y hlt,List.length_append,List.length_replicate] at hle
   have hmi:=hm g.es[i] (List.getElem_mem hlt)
   repeat' (first|((first|(refine zT ?_;intro K' hK')|(refine zG ?_ ?_<;>(try refine zH ?_)<;>intro hguard<;>(try exact zX)<;>try intro K' hK'))<;>((try simp+contextual only [go_sem,A06,Int.ofNat_lt,e2,Int.toNat_natCast]);(repeat' first|(with_reducible refine hK' _ _ ?_;clear hK' K')|exact zY|with_reducible refine And.intro ?_ ?_|(with_reducible intro hpath;try exact zP)|(refine hK' _ _ ?_;clear hK' K')|fail);try refine zS ?_))|(refine zE ?_;refine hK _ _ ?_;clear hK K)|(refine zN ?_;try refine zS ?_)|refine zA ?_|(refine zB ?_;intro K hK)|(refine zC ?_ ?_<;>(try refine zH ?_)<;>intro hcond<;>try exact zX)|fail)
   ·
    refine AWp.loopS (α:=Nat) 30 (fun k=>[(0,.c (.yld l)),(1,.c (.rptr [.int .i64 g.n,.slice (A0b g.es)])),(3,.c (.int .i64 (((endsL (g.es.take i)).length+k:Nat):Int))),(5,.c (.ptr 1 0)),(7,.c (.slice (A0b g.es) .none)),(8,.c (.int .i64 (g.es.length:Int))),(9,.c (.int .i64 (i:Int))),(14,.c (.int .i64 g.es[i].m)),(15,.c (.int .i64 (k:Int)))]) (fun k=>[.ghost (J ((endsL (g.es.take i)).length+k)),.box [.int .i64 g.es[i].a,.int .i64 g.es[i].b,.int .i64 g.es[i].m]]) (fun k=>k≤g.es[i].m.toNat) (fun k=>g.es[i].m.toNat-k) (0) (hk:=A0s.headL 2 30 [0,1,3,5,7,8,9,14,15] zW) (h0:=?_) (round:=fun k hI=>?_)
    ·exact Nat.zero_le _
    ·by_cases hk:(k:Int)<g.es[i].m
     ·
      have hk2:k<g.es[i].m.toNat:=by omega
      have hget:=B3u (B4F hlt hk2)
      repeat' (first|((with_reducible refine AWp.seq (AWp.of_reg (id:=6) (AReg.pre 7 (fun K hK=>?_))));simp only [List.take_succ_cons,List.take_zero])|((with_reducible refine AWp.of_reg (id:=6) (AReg.pre 7 (fun K hK=>?_)));simp only [List.take_succ_cons,List.take_zero])|((first|(refine zT ?_;intro K' hK')|(refine zG ?_ ?_<;>(try refine zH ?_)<;>intro hguard<;>(try exact zX)<;>try intro K' hK'))<;>((try simp+contextual only [go_sem]);(repeat' first|(with_reducible refine hK' _ _ ?_;clear hK' K')|exact zY|with_reducible refine And.intro ?_ ?_|(with_reducible intro hpath;try exact zP)|(refine hK' _ _ ?_;clear hK' K')|fail);try refine zS ?_))|(refine zE ?_;refine hK _ _ ?_;clear hK K)|(refine zN ?_;try refine zS ?_)|refine zA ?_|(refine zB ?_;intro K hK)|(refine zC ?_ ?_<;>(try refine zH ?_)<;>intro hcond<;>try exact zX)|fail)
      simp only [List.drop_succ_cons,List.drop_zero]
      refine AReg.yield rfl rfl rfl (by rfl) (by with_unfolding_all rfl) (by simp [B1u]) (hY _ _ hget) (hJ _) hJx ?_ ?_<;>(try refine zS ?_)<;>refine AReg.rest (fun K hK=> ?_)
      ·
       repeat' (first|((first|(refine zT ?_;intro K' hK')|(refine zG ?_ ?_<;>(try refine zH ?_)<;>intro hguard<;>(try exact zX)<;>try intro K' hK'))<;>((try simp+contextual only [go_sem]);(repeat' first|(with_reducible refine hK' _ _ ?_;clear hK' K')|exact zY|with_reducible refine And.intro ?_ ?_|(with_reducible intro hpath;try exact zP)|(refine hK' _ _ ?_;clear hK' K')|fail);try refine zS ?_))|(refine zE ?_;refine hK _ _ ?_;clear hK K)|(refine zN ?_;try refine zS ?_)|refine zA ?_|(refine zB ?_;intro K hK)|(refine zC ?_ ?_<;>(try refine zH ?_)<;>intro hcond<;>try exact zX)|fail)
       refine ⟨k+1,A0s.headF 2 30 [0,1,3,5,7,8,9,14,15] (zc @Nat.add_assoc trivial) zW,?_,?_⟩
       ·exact hk2
       ·omega
      ·
       repeat' (first|((first|(refine zT ?_;intro K' hK')|(refine zG ?_ ?_<;>(try refine zH ?_)<;>intro hguard<;>(try exact zX)<;>try intro K' hK'))<;>((try simp+contextual only [go_sem]);(repeat' first|(with_reducible refine hK' _ _ ?_;clear hK' K')|exact zY|with_reducible refine And.intro ?_ ?_|(with_reducible intro hpath;try exact zP)|(refine hK' _ _ ?_;clear hK' K')|fail);try refine zS ?_))|(refine zE ?_;refine hK _ _ ?_;clear hK K)|(refine zN ?_;try refine zS ?_)|refine zA ?_|(refine zB ?_;intro K hK)|(refine zC ?_ ?_<;>(try refine zH ?_)<;>intro hcond<;>try exact zX)|fail)
       exact ⟨True.intro,_,.inr rfl⟩
     ·
      have ek:k=g.es[i].m.toNat:=by omega
      refine zR (zc @e2 trivial) trivial trivial ?_
      refine ⟨i+1,A0s.headN 1 30 [0,1,3,7,8,9] zW (e1:=by first|rfl|(simp [mask,A1Q,A1y hlt,ek];done)|(simp [mask,A1Q,A1y hlt,ek]<;>simp_all<;>omega)) (e2:=by first|rfl|(simp [mask,A1Q,A1y hlt,ek];done)|(simp [mask,A1Q,A1y hlt,ek]<;>simp_all<;>omega)),?_,?_⟩
      ·exact hlt
      ·omega
  ·have ei:i=g.es.length:=by omega
   refine zR (zc @A06 (zc @Int.ofNat_lt trivial)) trivial trivial ?_
   exact ⟨True.intro,_,.inl (by rw [A8A,ei,List.take_length])⟩
theorem B3v (g:G):ACall Try.prog 78 [tG g] (.t (.fn 100 [.rptr [.int .i64 g.n,.slice (A0b g.es)]])):=by
 refine ACall.of_body Try.func78 rfl (by kernel_rfl) ?_
 simp only [entry,Try.ntmps78,tG]
 refine zU ?_
 refine zR trivial trivial trivial ?_
 simp [A0E,A0C,Blk.cells,ty,Try.results78,A0y,A05,toT,A0e,A0c,A0d,A0a]
theorem B4G {l:List (Int×Int)} {n:Nat} (hn:n=2) (k:Nat) (ts:List TVal) (h:(A6F l)[k]? =some ts):ts.length=n:=by
 obtain ⟨p,_,rfl⟩:=A8B h; exact hn.symm
theorem take_snoc {α:Type} {l:List α} {k:Nat} {p:α} (h:l[k]? =some p):l.take (k+1)=l.take k++[p]:=by
 obtain ⟨hk,rfl⟩:=List.getElem?_eq_some_iff.1 h
 exact List.take_succ_eq_append_getElem hk
theorem B19 {n:Int} {es:List E}: ∀{k:Nat},k≤es.length→(A4x n es k=0↔ ∀i,es.length-k≤i→i<es.length→A4w n es i=0):=by
 intro k
 induction k with
 | zero=>intro _; simp only [A4x,true_iff]; intro i h1 h2; omega
 | succ k ih=>
  intro hk
  simp only [A4x]
  by_cases h:A4w n es (es.length-(k+1))=0
  ·rw [if_neg (by simp [h]),ih (by omega)]
   constructor
   ·intro hx i h1 h2
    by_cases e:i=es.length-(k+1)
    ·subst e; exact h
    ·exact hx i (by omega) h2
   ·intro hx i h1 h2; exact hx i (by omega) h2
  ·rw [if_pos h]
   constructor
   ·intro hx; exact absurd hx h
   ·intro hx; exact absurd (hx _ (Nat.le_refl _) (by omega)) h
def ltE (x y:E):Prop:=x.a<y.a∨(x.a=y.a∧x.b<y.b)
def okE (n:Int) (x:E):Prop:=0≤x.a∧x.a≤x.b∧x.b<n∧1≤x.m∧x.m≤50
theorem A5D {n:Int} {es:List E} {i:Nat} (hi:i<es.length):A4w n es i=0↔okE n es[i]∧ ∀j (hj:j+1=i),ltE (es[j]'(by omega)) es[i]:=by
 unfold A4w okE ltE
 rw [List.getElem?_eq_getElem hi]
 simp only
 by_cases h1: ¬(0≤es[i].a∧es[i].a<n)∨ ¬(0≤es[i].b∧es[i].b<n)∨es[i].m<1∨50<es[i].m
 ·rw [if_pos h1]; constructor
  ·intro h; omega
  ·rintro ⟨h,_⟩; omega
 ·rw [if_neg h1]
  by_cases h2:es[i].b<es[i].a
  ·rw [if_pos h2]; constructor
   ·intro h; omega
   ·rintro ⟨h,_⟩; omega
  ·rw [if_neg h2]
   cases i with
   | zero=>simp only [true_iff]; exact ⟨by omega,fun j hj=>by omega⟩
   | succ j=>
    have hj:j<es.length:=by omega
    simp only [List.getElem?_eq_getElem hj]
    constructor
    ·intro h
     split at h
     ·omega
     ·refine ⟨by omega,fun j' e=> ?_⟩
      have:j'=j:=by omega
      subst this; omega
    ·rintro ⟨h,h3⟩
     have:=h3 j rfl
     rw [if_neg (by omega)]
theorem A02 {g:G}:checkG g=0↔(1≤g.n∧g.n≤12)∧(∀e,e∈g.es→okE g.n e)∧g.es.Pairwise ltE:=by
 unfold checkG
 by_cases h1:g.n<1∨12<g.n
 ·rw [if_pos h1]; constructor
  ·intro h; omega
  ·rintro ⟨h,_⟩; omega
 ·rw [if_neg h1,B19 (Nat.le_refl _),Nat.sub_self]
  constructor
  ·intro h
   refine ⟨by omega,fun e he=> ?_,?_⟩
   ·obtain ⟨i,hi,rfl⟩:=List.mem_iff_getElem.1 he
    exact ((A5D hi).1 (h i (Nat.zero_le _) hi)).1
   ·rw [List.pairwise_iff_getElem]
    intro i j hi hj hij
    have step: ∀d (hd:i+1+d<g.es.length),ltE g.es[i] g.es[i+1+d]:=by
     intro d
     induction d with
     | zero=>intro hd; exact ((A5D hd).1 (h _ (Nat.zero_le _) hd)).2 i (by omega)
     | succ d ih=>
      intro hd
      have h2:=ih (by omega)
      have h3:=((A5D hd).1 (h _ (Nat.zero_le _) hd)).2 (i+1+d) (by omega)
      unfold ltE at*; omega
    have:=step (j-(i+1)) (by omega)
    have e:i+1+(j-(i+1))=j:=by omega
    simp only [e] at this
    exact this
  ·rintro ⟨_,h2,h3⟩ i _ hi
   rw [List.pairwise_iff_getElem] at h3
   exact (A5D hi).2 ⟨h2 _ (List.getElem_mem hi),fun j hj=>h3 j i (by omega) hi (by omega)⟩
theorem B4H {es:List E} (h: ∀e,e∈es→e.m≤50):(endsL es).length≤50*es.length:=by
 induction es with
 | nil=>simp [endsL]
 | cons x xs ih=>
  have h1:=h x (by simp)
  have h2:=ih fun e he=>h e (by simp [he])
  have e:endsL (x::xs)=endsL [x]++endsL xs:=by rw [←A3l]; rfl
  rw [e,List.length_append,B0w,List.length_replicate,List.length_cons]; omega
structure Sm (g:G):Prop where
 es:g.es.length<2^40
 m: ∀e,e∈g.es→e.m<2^40
 s:(endsL g.es).length<2^40
theorem B8V {g:G} (hl:g.es.length<2^30) (h:checkG g=0):Sm g:=by
 obtain ⟨_,h2,_⟩:=A02.1 h
 refine ⟨by omega,fun e he=> ?_,?_⟩
 ·have:=h2 e he; unfold okE at this; omega
 ·have:=B4H (es:=g.es) fun e he=>by have:=h2 e he; unfold okE at this; omega
  omega
def A5E (l:List (Int×Int)):TVal:= .t (.slice (A8v l))
attribute [go_sem] A5E
end Go.Proofs.Ytdhfgihnoimoaaa
