/- A part of the proof. -/
import Derived.Test.YtdhfgihnoimoaaaPart03
import Derived.Test.YtdhfgihnoimoaaaLayerC
set_option linter.all false
set_option maxHeartbeats 4000000
set_option maxRecDepth 100000
namespace Go.Proofs.Ytdhfgihnoimoaaa
open Go.Sp
def lnkE (v : Int) (e : E) : Option (Int × Int) := if e.a ≠ e.b ∧ (e.a = v ∨ e.b = v) then some (e.a + e.b - v, e.m) else none
def lnkL (es : List E) (v : Int) : List (Int × Int) := es.filterMap (lnkE v)
def itemsK (l : List (Int × Int)) : List (List TVal) := l.map fun p => [tint p.1, tint p.2]
theorem itemsK_len (l : List (Int × Int)) : (itemsK l).length = l.length := by simp [itemsK]
theorem itemsK_get {l : List (Int × Int)} {i : Nat} {p : Int × Int} (h : l[i]? = some p) : (itemsK l)[i]? = some [tint p.1, tint p.2] := by
 simp [itemsK, h]
theorem itemsK_inv {l : List (Int × Int)} {i : Nat} {ts : List TVal} (h : (itemsK l)[i]? = some ts) : ∃ p, l[i]? = some p ∧ ts = [tint p.1, tint p.2] := by
 simp only [itemsK, List.getElem?_map] at h
 cases hl : l[i]? with
 | none => simp [hl] at h
 | some p => simp [hl] at h; exact ⟨p, rfl, h.symm⟩
theorem lnkL_take {es : List E} {v : Int} {i : Nat} (h : i < es.length) : lnkL (es.take (i + 1)) v = lnkL (es.take i) v ++ (lnkE v es[i]).toList := by
 unfold lnkL
 rw [List.take_succ_eq_append_getElem h, List.filterMap_append, List.filterMap_cons, List.filterMap_nil]
 cases hx : lnkE v es[i] <;> rfl
theorem lnkL_split {es : List E} {v : Int} {i : Nat} (h : i < es.length) : lnkL es v = lnkL (es.take i) v ++ ((lnkE v es[i]).toList ++ lnkL (es.drop (i + 1)) v) := by
 have e : es = es.take i ++ es[i] :: es.drop (i + 1) := by rw [← List.drop_eq_getElem_cons h, List.take_append_drop]
 conv => lhs; rw [e]
 unfold lnkL
 rw [List.filterMap_append, List.filterMap_cons]
 cases hx : lnkE v es[i] <;> simp [hx]
theorem links1_ok (n : Int) (es : List E) (v : Int) (hl : es.length < 2 ^ 40) (hm : ∀ e, e ∈ es → (0 ≤ e.a ∧ e.a < 2 ^ 40) ∧ (0 ≤ e.b ∧ e.b < 2 ^ 40)) (hv : 0 ≤ v ∧ v < 2 ^ 40) :
  AIter Try.prog 126 [.rptr [.rptr [.int .i64 n, .slice (eRows es)]], .rptr [.int .i64 v]] (itemsK (lnkL es v)) := by
 refine AIter.of_body Try.func126 rfl (by kernel_rfl) rfl (fun l J Jx hJ hJx hY => ?_)
 simp only [entry, Try.ntmps126, ofT, ofT1, ofTree, List.map_cons, List.map_nil, List.length_cons, List.length_nil, Nat.reduceAdd, Nat.reduceSub, List.replicate_succ, List.replicate_zero, List.cons_append, List.nil_append]
 refine zR (zc @eRows_len trivial) trivial trivial ?_
 refine AWp.loopS (α:=Nat) 50 (fun i=>[(0,.c (.yld l)),(1,.c (.rptr [.rptr [.int .i64 n, .slice (eRows es)]])),(2,.c (.rptr [.int .i64 v])),(11,.c (.slice (eRows es) .none)),(12,.c (.int .i64 (es.length : Int))),(13,.c (.int .i64 (i : Int)))]) (fun i=>[.ghost (J (lnkL (es.take i) v).length)]) (fun i=>i ≤ es.length) (fun i=>es.length - i) (0) (hk:=Weak.headL 1 50 [0, 1, 2, 11, 12, 13] zW) (h0:=?_) (round:=fun i hI=>?_)
 ·exact Nat.zero_le _
 ·have hi : i ≤ es.length := hI
  clear hI
  by_cases hlt : i < es.length
  ·have hltI : (i : Int) < (es.length : Int) := by omega
   have e1 : es[i]? = some es[i] := List.getElem?_eq_getElem hlt
   have e2 := eRows_get e1
   have hmi := hm es[i] (List.getElem_mem hlt)
   have hts := lnkL_take (v := v) hlt
   have hsp := lnkL_split (v := v) hlt
   have hgk : ∀ p, lnkE v es[i] = some p → (itemsK (lnkL es v))[(lnkL (es.take i) v).length]? = some [tint p.1, tint p.2] := fun p hp => itemsK_get (by
    rw [hsp, hp, List.getElem?_append_right (Nat.le_refl _)]; simp)
   generalize es[i] = e at *
   generalize hLi : lnkL (es.take i) v = Li at *
   generalize hLi1 : lnkL (es.take (i + 1)) v = Li1 at *
   clear hsp
   obtain ⟨a, b, m⟩ := e
   unfold lnkE at hts hgk
   simp only at hts hgk hmi
   by_cases hab : a = b
   ·rw [if_neg (fun q => q.1 hab), Option.toList_none, List.append_nil] at hts
    refine zR (zc @hltI (zc @e2 (zc @hab (zc @eRows_len trivial)))) trivial trivial ?_
    refine ⟨i + 1,Weak.headF 1 50 [0, 1, 2, 11, 12, 13] (zc @hLi1 (zc @hts trivial)) zW,?_,?_⟩
    ·exact hlt
    ·omega
   ·by_cases hav : a = v
    ·have hg := hgk _ (if_pos ⟨hab, .inl hav⟩)
     rw [if_pos ⟨hab, .inl hav⟩] at hts
     have hln : Li1.length = Li.length + 1 := by rw [hts]; simp
     simp only [hav] at hg
     repeat' (first|((with_reducible refine AWp.seq (AWp.of_reg (id:=4) (AReg.pre 22 (fun K hK=>?_))));simp only [List.take_succ_cons,List.take_zero])|((with_reducible refine AWp.of_reg (id:=4) (AReg.pre 22 (fun K hK=>?_)));simp only [List.take_succ_cons,List.take_zero])|((first|(refine zT ?_;intro K' hK')|(refine zG ?_ ?_<;>(try refine zH ?_)<;>intro hguard<;>(try exact zX)<;>try intro K' hK'))<;>((try simp +contextual only [go_sem, hltI, e2, hab, hav, eRows_len, Int.toNat_natCast]);(repeat' first|(with_reducible refine hK' _ _ ?_;clear hK' K')|exact zY|with_reducible refine And.intro ?_ ?_|(with_reducible intro hpath;try exact zP)|(refine hK' _ _ ?_;clear hK' K')|fail);try refine zS ?_))|(refine zE ?_;refine hK _ _ ?_;clear hK K)|(refine zN ?_;try refine zS ?_)|refine zA ?_|(refine zB ?_;intro K hK)|(refine zC ?_ ?_<;>(try refine zH ?_)<;>intro hcond<;>try exact zX)|fail)
     simp only [List.drop_succ_cons, List.drop_zero]
     refine AReg.yieldG rfl rfl (by rfl) (by rfl) (by with_unfolding_all rfl) (by simp [okBlk]) (hY _ _ hg) (hJ _) hJx ?_ ?_ <;> (try refine zS ?_) <;> refine AReg.rest (fun K hK => ?_)
     ·
      repeat' (first|((first|(refine zT ?_;intro K' hK')|(refine zG ?_ ?_<;>(try refine zH ?_)<;>intro hguard<;>(try exact zX)<;>try intro K' hK'))<;>((try simp +contextual only [go_sem]);(repeat' first|(with_reducible refine hK' _ _ ?_;clear hK' K')|exact zY|with_reducible refine And.intro ?_ ?_|(with_reducible intro hpath;try exact zP)|(refine hK' _ _ ?_;clear hK' K')|fail);try refine zS ?_))|(refine zE ?_;refine hK _ _ ?_;clear hK K)|(refine zN ?_;try refine zS ?_)|refine zA ?_|(refine zB ?_;intro K hK)|(refine zC ?_ ?_<;>(try refine zH ?_)<;>intro hcond<;>try exact zX)|fail)
      refine ⟨i + 1,Weak.headF 1 50 [0, 1, 2, 11, 12, 13] (zc @hLi1 (zc @hln trivial)) zW,?_,?_⟩
      ·exact hlt
      ·omega
     ·
      repeat' (first|((first|(refine zT ?_;intro K' hK')|(refine zG ?_ ?_<;>(try refine zH ?_)<;>intro hguard<;>(try exact zX)<;>try intro K' hK'))<;>((try simp +contextual only [go_sem]);(repeat' first|(with_reducible refine hK' _ _ ?_;clear hK' K')|exact zY|with_reducible refine And.intro ?_ ?_|(with_reducible intro hpath;try exact zP)|(refine hK' _ _ ?_;clear hK' K')|fail);try refine zS ?_))|(refine zE ?_;refine hK _ _ ?_;clear hK K)|(refine zN ?_;try refine zS ?_)|refine zA ?_|(refine zB ?_;intro K hK)|(refine zC ?_ ?_<;>(try refine zH ?_)<;>intro hcond<;>try exact zX)|fail)
      exact ⟨True.intro, _, .inr rfl⟩
    ·by_cases hbv : b = v
     ·have hg := hgk _ (if_pos ⟨hab, .inr hbv⟩)
      rw [if_pos ⟨hab, .inr hbv⟩] at hts
      have hln : Li1.length = Li.length + 1 := by rw [hts]; simp
      simp only [hbv] at hg
      repeat' (first|((with_reducible refine AWp.seq (AWp.of_reg (id:=4) (AReg.pre 22 (fun K hK=>?_))));simp only [List.take_succ_cons,List.take_zero])|((with_reducible refine AWp.of_reg (id:=4) (AReg.pre 22 (fun K hK=>?_)));simp only [List.take_succ_cons,List.take_zero])|((first|(refine zT ?_;intro K' hK')|(refine zG ?_ ?_<;>(try refine zH ?_)<;>intro hguard<;>(try exact zX)<;>try intro K' hK'))<;>((try simp +contextual only [go_sem, hltI, e2, hab, hav, hbv, eRows_len, Int.toNat_natCast]);(repeat' first|(with_reducible refine hK' _ _ ?_;clear hK' K')|exact zY|with_reducible refine And.intro ?_ ?_|(with_reducible intro hpath;try exact zP)|(refine hK' _ _ ?_;clear hK' K')|fail);try refine zS ?_))|(refine zE ?_;refine hK _ _ ?_;clear hK K)|(refine zN ?_;try refine zS ?_)|refine zA ?_|(refine zB ?_;intro K hK)|(refine zC ?_ ?_<;>(try refine zH ?_)<;>intro hcond<;>try exact zX)|fail)
      simp only [List.drop_succ_cons, List.drop_zero]
      refine AReg.yieldG rfl rfl (by rfl) (by rfl) (by with_unfolding_all rfl) (by simp [okBlk]) (hY _ _ hg) (hJ _) hJx ?_ ?_ <;> (try refine zS ?_) <;> refine AReg.rest (fun K hK => ?_)
      ·
       repeat' (first|((first|(refine zT ?_;intro K' hK')|(refine zG ?_ ?_<;>(try refine zH ?_)<;>intro hguard<;>(try exact zX)<;>try intro K' hK'))<;>((try simp +contextual only [go_sem]);(repeat' first|(with_reducible refine hK' _ _ ?_;clear hK' K')|exact zY|with_reducible refine And.intro ?_ ?_|(with_reducible intro hpath;try exact zP)|(refine hK' _ _ ?_;clear hK' K')|fail);try refine zS ?_))|(refine zE ?_;refine hK _ _ ?_;clear hK K)|(refine zN ?_;try refine zS ?_)|refine zA ?_|(refine zB ?_;intro K hK)|(refine zC ?_ ?_<;>(try refine zH ?_)<;>intro hcond<;>try exact zX)|fail)
       refine ⟨i + 1,Weak.headF 1 50 [0, 1, 2, 11, 12, 13] (zc @hLi1 (zc @hln trivial)) zW,?_,?_⟩
       ·exact hlt
       ·omega
      ·
       repeat' (first|((first|(refine zT ?_;intro K' hK')|(refine zG ?_ ?_<;>(try refine zH ?_)<;>intro hguard<;>(try exact zX)<;>try intro K' hK'))<;>((try simp +contextual only [go_sem]);(repeat' first|(with_reducible refine hK' _ _ ?_;clear hK' K')|exact zY|with_reducible refine And.intro ?_ ?_|(with_reducible intro hpath;try exact zP)|(refine hK' _ _ ?_;clear hK' K')|fail);try refine zS ?_))|(refine zE ?_;refine hK _ _ ?_;clear hK K)|(refine zN ?_;try refine zS ?_)|refine zA ?_|(refine zB ?_;intro K hK)|(refine zC ?_ ?_<;>(try refine zH ?_)<;>intro hcond<;>try exact zX)|fail)
       exact ⟨True.intro, _, .inr rfl⟩
     ·rw [if_neg (fun q => q.2.elim hav hbv), Option.toList_none, List.append_nil] at hts
      refine zR (zc @hltI (zc @e2 (zc @hab (zc @hav (zc @hbv (zc @eRows_len trivial)))))) trivial trivial ?_
      refine ⟨i + 1,Weak.headF 1 50 [0, 1, 2, 11, 12, 13] (zc @hLi1 (zc @hts trivial)) zW,?_,?_⟩
      ·exact hlt
      ·omega
  ·have ei : i = es.length := by omega
   have hnl : ¬ (i : Int) < (es.length : Int) := by omega
   refine zR (zc @hnl (zc @eRows_len trivial)) trivial trivial ?_
   exact ⟨True.intro, _, .inl (by rw [itemsK_len, ei, List.take_length])⟩
theorem links_ok (n : Int) (es : List E) (v : Int) : ACall Try.prog 122 [.t (.rptr [.int .i64 n, .slice (eRows es)]), tint v] (.t (.fn 126 [.rptr [.rptr [.int .i64 n, .slice (eRows es)]], .rptr [.int .i64 v]])) := by
 refine ACall.of_body Try.func122 rfl (by kernel_rfl) ?_
 simp only [entry, Try.ntmps122, tint]
 refine zU ?_
 refine zR trivial trivial trivial ?_
 simp [Rets, aret, Blk.cells, ty, Try.results122, ares, toT1, toT, borrow, borrow0, capCell, toTree0]
def itemsP (l : List (Int × Int)) : List (List TVal) := l.zipIdx.map fun p => [tint (p.2 : Int), tpair p.1.1 p.1.2]
theorem itemsP_len (l : List (Int × Int)) : (itemsP l).length = l.length := by simp [itemsP]
theorem itemsP_get {l : List (Int × Int)} {i : Nat} {p : Int × Int} (h : l[i]? = some p) : (itemsP l)[i]? = some [tint (i : Int), tpair p.1 p.2] := by
 simp [itemsP, h]
theorem itemsP_inv {l : List (Int × Int)} {i : Nat} {ts : List TVal} (h : (itemsP l)[i]? = some ts) : ∃ p, l[i]? = some p ∧ ts = [tint (i : Int), tpair p.1 p.2] := by
 simp only [itemsP, List.getElem?_map, List.getElem?_zipIdx] at h
 cases hl : l[i]? with
 | none => simp [hl] at h
 | some p => simp [hl] at h; exact ⟨p, rfl, h.symm⟩
theorem endsL_get {es : List E} {i k : Nat} (h : i < es.length) (hk : k < (es[i]'h).m.toNat) : (endsL es)[(endsL (es.take i)).length + k]? = some (es[i].a, es[i].b) := by
 have e : endsL es = endsL (es.take i) ++ (List.replicate es[i].m.toNat (es[i].a, es[i].b) ++ endsL (es.drop (i + 1))) := by
  rw [← List.append_assoc, ← endsL_take h, ← endsL_append, List.take_append_drop]
 rw [e, List.getElem?_append_right (by omega), Nat.add_sub_cancel_left, List.getElem?_append_left (by rw [List.length_replicate]; exact hk)]
 rw [List.getElem?_replicate, if_pos hk]
theorem singles1_ok (g : G) (hs : (endsL g.es).length < 2 ^ 40) (hl : g.es.length < 2 ^ 40) (hm : ∀ e, e ∈ g.es → e.m < 2 ^ 40) : AIter Try.prog 100 [.rptr [.int .i64 g.n, .slice (eRows g.es)]] (itemsP (endsL g.es)) := by
 refine AIter.of_body Try.func100 rfl (by kernel_rfl) rfl (fun l J Jx hJ hJx hY => ?_)
 simp only [entry, Try.ntmps100, ofT, ofT1, ofTree, List.map_cons, List.map_nil, List.length_cons, List.length_nil, Nat.reduceAdd, Nat.reduceSub, List.replicate_succ, List.replicate_zero, List.cons_append, List.nil_append]
 refine zR (zc @eRows_len trivial) trivial trivial ?_
 refine AWp.loopS (α:=Nat) 30 (fun i=>[(0,.c (.yld l)),(1,.c (.rptr [.int .i64 g.n, .slice (eRows g.es)])),(3,.c (.int .i64 ((endsL (g.es.take i)).length : Int))),(7,.c (.slice (eRows g.es) .none)),(8,.c (.int .i64 (g.es.length : Int))),(9,.c (.int .i64 (i : Int)))]) (fun i=>[.ghost (J (endsL (g.es.take i)).length)]) (fun i=>i ≤ g.es.length) (fun i=>g.es.length - i) (0) (hk:=Weak.headL 1 30 [0, 1, 3, 7, 8, 9] zW) (h0:=?_) (round:=fun i hI=>?_)
 ·exact Nat.zero_le _
 ·by_cases hlt : i < g.es.length
  ·have e1 : g.es[i]? = some g.es[i] := List.getElem?_eq_getElem hlt
   have e2 := eRows_get e1
   have hle := endsL_take_le g.es (i + 1)
   rw [endsL_take hlt, List.length_append, List.length_replicate] at hle
   have hmi := hm g.es[i] (List.getElem_mem hlt)
   repeat' (first|((first|(refine zT ?_;intro K' hK')|(refine zG ?_ ?_<;>(try refine zH ?_)<;>intro hguard<;>(try exact zX)<;>try intro K' hK'))<;>((try simp +contextual only [go_sem, eRows_len, Int.ofNat_lt, e2, Int.toNat_natCast]);(repeat' first|(with_reducible refine hK' _ _ ?_;clear hK' K')|exact zY|with_reducible refine And.intro ?_ ?_|(with_reducible intro hpath;try exact zP)|(refine hK' _ _ ?_;clear hK' K')|fail);try refine zS ?_))|(refine zE ?_;refine hK _ _ ?_;clear hK K)|(refine zN ?_;try refine zS ?_)|refine zA ?_|(refine zB ?_;intro K hK)|(refine zC ?_ ?_<;>(try refine zH ?_)<;>intro hcond<;>try exact zX)|fail)
   ·
    refine AWp.loopS (α:=Nat) 30 (fun k=>[(0,.c (.yld l)),(1,.c (.rptr [.int .i64 g.n, .slice (eRows g.es)])),(3,.c (.int .i64 (((endsL (g.es.take i)).length + k : Nat) : Int))),(5,.c (.ptr 1 0)),(7,.c (.slice (eRows g.es) .none)),(8,.c (.int .i64 (g.es.length : Int))),(9,.c (.int .i64 (i : Int))),(14,.c (.int .i64 g.es[i].m)),(15,.c (.int .i64 (k : Int)))]) (fun k=>[.ghost (J ((endsL (g.es.take i)).length + k)), .box [.int .i64 g.es[i].a, .int .i64 g.es[i].b, .int .i64 g.es[i].m]]) (fun k=>k ≤ g.es[i].m.toNat) (fun k=>g.es[i].m.toNat - k) (0) (hk:=Weak.headL 2 30 [0, 1, 3, 5, 7, 8, 9, 14, 15] zW) (h0:=?_) (round:=fun k hI=>?_)
    ·exact Nat.zero_le _
    ·by_cases hk : (k : Int) < g.es[i].m
     ·
      have hk2 : k < g.es[i].m.toNat := by omega
      have hget := itemsP_get (endsL_get hlt hk2)
      repeat' (first|((with_reducible refine AWp.seq (AWp.of_reg (id:=6) (AReg.pre 7 (fun K hK=>?_))));simp only [List.take_succ_cons,List.take_zero])|((with_reducible refine AWp.of_reg (id:=6) (AReg.pre 7 (fun K hK=>?_)));simp only [List.take_succ_cons,List.take_zero])|((first|(refine zT ?_;intro K' hK')|(refine zG ?_ ?_<;>(try refine zH ?_)<;>intro hguard<;>(try exact zX)<;>try intro K' hK'))<;>((try simp +contextual only [go_sem]);(repeat' first|(with_reducible refine hK' _ _ ?_;clear hK' K')|exact zY|with_reducible refine And.intro ?_ ?_|(with_reducible intro hpath;try exact zP)|(refine hK' _ _ ?_;clear hK' K')|fail);try refine zS ?_))|(refine zE ?_;refine hK _ _ ?_;clear hK K)|(refine zN ?_;try refine zS ?_)|refine zA ?_|(refine zB ?_;intro K hK)|(refine zC ?_ ?_<;>(try refine zH ?_)<;>intro hcond<;>try exact zX)|fail)
      simp only [List.drop_succ_cons, List.drop_zero]
      refine AReg.yield rfl rfl rfl (by rfl) (by with_unfolding_all rfl) (by simp [okBlk]) (hY _ _ hget) (hJ _) hJx ?_ ?_ <;> (try refine zS ?_) <;> refine AReg.rest (fun K hK => ?_)
      ·
       repeat' (first|((first|(refine zT ?_;intro K' hK')|(refine zG ?_ ?_<;>(try refine zH ?_)<;>intro hguard<;>(try exact zX)<;>try intro K' hK'))<;>((try simp +contextual only [go_sem]);(repeat' first|(with_reducible refine hK' _ _ ?_;clear hK' K')|exact zY|with_reducible refine And.intro ?_ ?_|(with_reducible intro hpath;try exact zP)|(refine hK' _ _ ?_;clear hK' K')|fail);try refine zS ?_))|(refine zE ?_;refine hK _ _ ?_;clear hK K)|(refine zN ?_;try refine zS ?_)|refine zA ?_|(refine zB ?_;intro K hK)|(refine zC ?_ ?_<;>(try refine zH ?_)<;>intro hcond<;>try exact zX)|fail)
       refine ⟨k + 1,Weak.headF 2 30 [0, 1, 3, 5, 7, 8, 9, 14, 15] (zc @Nat.add_assoc trivial) zW,?_,?_⟩
       ·exact hk2
       ·omega
      ·
       repeat' (first|((first|(refine zT ?_;intro K' hK')|(refine zG ?_ ?_<;>(try refine zH ?_)<;>intro hguard<;>(try exact zX)<;>try intro K' hK'))<;>((try simp +contextual only [go_sem]);(repeat' first|(with_reducible refine hK' _ _ ?_;clear hK' K')|exact zY|with_reducible refine And.intro ?_ ?_|(with_reducible intro hpath;try exact zP)|(refine hK' _ _ ?_;clear hK' K')|fail);try refine zS ?_))|(refine zE ?_;refine hK _ _ ?_;clear hK K)|(refine zN ?_;try refine zS ?_)|refine zA ?_|(refine zB ?_;intro K hK)|(refine zC ?_ ?_<;>(try refine zH ?_)<;>intro hcond<;>try exact zX)|fail)
       exact ⟨True.intro, _, .inr rfl⟩
     ·
      have ek : k = g.es[i].m.toNat := by omega
      refine zR (zc @e2 trivial) trivial trivial ?_
      refine ⟨i + 1,Weak.headN 1 30 [0, 1, 3, 7, 8, 9] zW (e1:=by first|rfl|(simp [mask,keepL, endsL_take hlt, ek];done)|(simp [mask,keepL, endsL_take hlt, ek]<;>simp_all<;>omega)) (e2:=by first|rfl|(simp [mask,keepL, endsL_take hlt, ek];done)|(simp [mask,keepL, endsL_take hlt, ek]<;>simp_all<;>omega)),?_,?_⟩
      ·exact hlt
      ·omega
  ·have ei : i = g.es.length := by omega
   refine zR (zc @eRows_len (zc @Int.ofNat_lt trivial)) trivial trivial ?_
   exact ⟨True.intro, _, .inl (by rw [itemsP_len, ei, List.take_length])⟩
theorem singles_ok (g : G) : ACall Try.prog 78 [tG g] (.t (.fn 100 [.rptr [.int .i64 g.n, .slice (eRows g.es)]])) := by
 refine ACall.of_body Try.func78 rfl (by kernel_rfl) ?_
 simp only [entry, Try.ntmps78, tG]
 refine zU ?_
 refine zR trivial trivial trivial ?_
 simp [Rets, aret, Blk.cells, ty, Try.results78, ares, toT1, toT, borrow, borrow0, capCell, toTree0]
def xsb (f : Nat → Bool) : Nat → Bool
 | 0 => false
 | k + 1 => xor (xsb f k) (f k)
abbrev edL (L : List (Nat × Nat)) (e : Nat) : Nat × Nat := L.getD e (0, 0)
def crs (L : List (Nat × Nat)) (S : Nat → Bool) (e : Nat) : Bool := xor (S (edL L e).1) (S (edL L e).2)
def cross (L : List (Nat × Nat)) (A S : Nat → Bool) : Bool := xsb (fun e => A e && crs L S e) L.length
def EvenA (L : List (Nat × Nat)) (A : Nat → Bool) : Prop := ∀ S, cross L A S = false
def SupA (L : List (Nat × Nat)) (A : Nat → Bool) : Prop := ∀ e, A e = true → e < L.length
structure Circ (L : List (Nat × Nat)) (C : Nat → Bool) : Prop where
 sup : SupA L C
 ev : EvenA L C
 ne : ∃ e, C e = true
 mn : ∀ D : Nat → Bool, (∀ e, D e = true → C e = true) → EvenA L D → (∃ e, D e = true) → ∀ e, C e = true → D e = true
def Rel (L : List (Nat × Nat)) (e f : Nat) : Prop := e = f ∨ ∃ C, Circ L C ∧ C e = true ∧ C f = true
theorem itemsP_ps {l : List (Int × Int)} {n : Nat} (hn : n = 2) (k : Nat) (ts : List TVal) (h : (itemsP l)[k]? = some ts) : ts.length = n := by
 obtain ⟨p, _, rfl⟩ := itemsP_inv h; exact hn.symm
theorem take_snoc {α : Type} {l : List α} {k : Nat} {p : α} (h : l[k]? = some p) : l.take (k + 1) = l.take k ++ [p] := by
 obtain ⟨hk, rfl⟩ := List.getElem?_eq_some_iff.1 h
 exact List.take_succ_eq_append_getElem hk
theorem checkE_zero {n : Int} {es : List E} : ∀ {k : Nat}, k ≤ es.length → (checkE n es k = 0 ↔ ∀ i, es.length - k ≤ i → i < es.length → edgeE n es i = 0) := by
 intro k
 induction k with
 | zero => intro _; simp only [checkE, true_iff]; intro i h1 h2; omega
 | succ k ih =>
  intro hk
  simp only [checkE]
  by_cases h : edgeE n es (es.length - (k + 1)) = 0
  ·rw [if_neg (by simp [h]), ih (by omega)]
   constructor
   ·intro hx i h1 h2
    by_cases e : i = es.length - (k + 1)
    ·subst e; exact h
    ·exact hx i (by omega) h2
   ·intro hx i h1 h2; exact hx i (by omega) h2
  ·rw [if_pos h]
   constructor
   ·intro hx; exact absurd hx h
   ·intro hx; exact absurd (hx _ (Nat.le_refl _) (by omega)) h
def ltE (x y : E) : Prop := x.a < y.a ∨ (x.a = y.a ∧ x.b < y.b)
def okE (n : Int) (x : E) : Prop := 0 ≤ x.a ∧ x.a ≤ x.b ∧ x.b < n ∧ 1 ≤ x.m ∧ x.m ≤ 50
theorem edgeE_iff {n : Int} {es : List E} {i : Nat} (hi : i < es.length) : edgeE n es i = 0 ↔ okE n es[i] ∧ ∀ j (hj : j + 1 = i), ltE (es[j]'(by omega)) es[i] := by
 unfold edgeE okE ltE
 rw [List.getElem?_eq_getElem hi]
 simp only
 by_cases h1 : ¬ (0 ≤ es[i].a ∧ es[i].a < n) ∨ ¬ (0 ≤ es[i].b ∧ es[i].b < n) ∨ es[i].m < 1 ∨ 50 < es[i].m
 ·rw [if_pos h1]; constructor
  ·intro h; omega
  ·rintro ⟨h, _⟩; omega
 ·rw [if_neg h1]
  by_cases h2 : es[i].b < es[i].a
  ·rw [if_pos h2]; constructor
   ·intro h; omega
   ·rintro ⟨h, _⟩; omega
  ·rw [if_neg h2]
   cases i with
   | zero => simp only [true_iff]; exact ⟨by omega, fun j hj => by omega⟩
   | succ j =>
    have hj : j < es.length := by omega
    simp only [List.getElem?_eq_getElem hj]
    constructor
    ·intro h
     split at h
     ·omega
     ·refine ⟨by omega, fun j' e => ?_⟩
      have : j' = j := by omega
      subst this; omega
    ·rintro ⟨h, h3⟩
     have := h3 j rfl
     rw [if_neg (by omega)]
theorem checkG_zero {g : G} : checkG g = 0 ↔ (1 ≤ g.n ∧ g.n ≤ 12) ∧ (∀ e, e ∈ g.es → okE g.n e) ∧ g.es.Pairwise ltE := by
 unfold checkG
 by_cases h1 : g.n < 1 ∨ 12 < g.n
 ·rw [if_pos h1]; constructor
  ·intro h; omega
  ·rintro ⟨h, _⟩; omega
 ·rw [if_neg h1, checkE_zero (Nat.le_refl _), Nat.sub_self]
  constructor
  ·intro h
   refine ⟨by omega, fun e he => ?_, ?_⟩
   ·obtain ⟨i, hi, rfl⟩ := List.mem_iff_getElem.1 he
    exact ((edgeE_iff hi).1 (h i (Nat.zero_le _) hi)).1
   ·rw [List.pairwise_iff_getElem]
    intro i j hi hj hij
    have step : ∀ d (hd : i + 1 + d < g.es.length), ltE g.es[i] g.es[i + 1 + d] := by
     intro d
     induction d with
     | zero => intro hd; exact ((edgeE_iff hd).1 (h _ (Nat.zero_le _) hd)).2 i (by omega)
     | succ d ih =>
      intro hd
      have h2 := ih (by omega)
      have h3 := ((edgeE_iff hd).1 (h _ (Nat.zero_le _) hd)).2 (i + 1 + d) (by omega)
      unfold ltE at *; omega
    have := step (j - (i + 1)) (by omega)
    have e : i + 1 + (j - (i + 1)) = j := by omega
    simp only [e] at this
    exact this
  ·rintro ⟨_, h2, h3⟩ i _ hi
   rw [List.pairwise_iff_getElem] at h3
   exact (edgeE_iff hi).2 ⟨h2 _ (List.getElem_mem hi), fun j hj => h3 j i (by omega) hi (by omega)⟩
theorem endsL_len {es : List E} (h : ∀ e, e ∈ es → e.m ≤ 50) : (endsL es).length ≤ 50 * es.length := by
 induction es with
 | nil => simp [endsL]
 | cons x xs ih =>
  have h1 := h x (by simp)
  have h2 := ih fun e he => h e (by simp [he])
  have e : endsL (x :: xs) = endsL [x] ++ endsL xs := by rw [← endsL_append]; rfl
  rw [e, List.length_append, endsL_one, List.length_replicate, List.length_cons]; omega
structure Sm (g : G) : Prop where
 es : g.es.length < 2 ^ 40
 m : ∀ e, e ∈ g.es → e.m < 2 ^ 40
 s : (endsL g.es).length < 2 ^ 40
theorem sm_of {g : G} (hl : g.es.length < 2 ^ 30) (h : checkG g = 0) : Sm g := by
 obtain ⟨_, h2, _⟩ := checkG_zero.1 h
 refine ⟨by omega, fun e he => ?_, ?_⟩
 ·have := h2 e he; unfold okE at this; omega
 ·have := endsL_len (es := g.es) fun e he => by have := h2 e he; unfold okE at this; omega
  omega
def tpairs (l : List (Int × Int)) : TVal := .t (.slice (pRows l))
attribute [go_sem] tpairs
abbrev sn (s : BS) (x : Nat) : Nat := s.seen.getD x 0
abbrev lw (s : BS) (x : Nat) : Nat := s.low.getD x 0
def NL (L : List (Nat × Nat)) (e : Nat) : Prop := e < L.length ∧ (edL L e).1 ≠ (edL L e).2
def tch (L : List (Nat × Nat)) (e x : Nat) : Prop := (edL L e).1 = x ∨ (edL L e).2 = x
structure Wit (L : List (Nat × Nat)) (S : Nat → Prop) (v y : Nat) (A : Nat → Bool) (b : Nat) : Prop where
 sup : SupA L A
 bd : ∀ T : Nat → Bool, cross L A T = xor (T v) (T y)
 ab : A b = true
 nl : NL L b
 tb : tch L b y
 ins : ∀ e, A e = true → e ≠ b → ∀ x, tch L e x → S x
 bs : ∀ x, tch L b x → S x ∨ x = y
structure PathA (L : List (Nat × Nat)) (anc : Nat → Prop) (v : Nat) (by' : Int) (y : Nat) (Q : Nat → Bool) : Prop where
 sup : SupA L Q
 bd : ∀ T : Nat → Bool, cross L Q T = xor (T y) (T v)
 ins : ∀ e, Q e = true → ∀ x, tch L e x → anc x ∨ x = v
 last : ∀ e, Q e = true → tch L e v → (e : Int) = by'
end Go.Proofs.Ytdhfgihnoimoaaa
