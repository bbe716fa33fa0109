/- A part of the proof. -/
import Derived.Test.YtfkegnhpihoncaaGreatPart09
import Derived.Test.YtfkegnhpihoncaaGreatPart11
import Derived.Test.YtfkegnhpihoncaaGreatLayerC
set_option linter.all false
set_option maxHeartbeats 4000000
set_option maxRecDepth 100000
namespace Go.Proofs.YtfkegnhpihoncaaGreat
open Go.Sp
instance : DecidableEq E := fun x y => decidable_of_iff (x.a = y.a ∧ x.b = y.b ∧ x.m = y.m) (by cases x; cases y; simp)
theorem Same_ok (g h : G) (hl : g.es.length < 2 ^ 40) (hm : h.es.length < 2 ^ 40) : ACall Tryz.prog 69 [tG g, tG h] (tbool (decide (g.n = h.n ∧ g.es = h.es))) := by
 refine ACall.of_body Tryz.func69 rfl (by kernel_rfl) ?_
 simp only [entry, Tryz.ntmps69, tG]
 refine zU ?_
 repeat' (first|((first|(refine zT ?_;intro K' hK')|(refine zG ?_ ?_<;>(try refine zH ?_)<;>intro hguard<;>(try exact zX)<;>try intro K' hK'))<;>((try simp +contextual only [go_sem, eRows_len]);(repeat' first|(with_reducible refine hK' _ _ ?_;clear hK' K')|exact zY|with_reducible refine And.intro ?_ ?_|(with_reducible intro hpath;try exact zP)|(refine hK' _ _ ?_;clear hK' K')|fail);try refine zS ?_))|(refine zE ?_;refine hK _ _ ?_;clear hK K)|(refine zN ?_;try refine zS ?_)|refine zA ?_|(refine zB ?_;intro K hK)|(refine zC ?_ ?_<;>(try refine zH ?_)<;>intro hcond<;>try exact zX)|fail)
 ·have e : ¬ (g.n = h.n ∧ g.es = h.es) := fun e => by
   have := congrArg List.length e.2; omega
  simp [Rets, aret, Blk.cells, ty, Tryz.results69, ares, toT1, toT, borrow, borrow0, capCell, toTree0, tbool, e]
 ·have hlm : g.es.length = h.es.length := by omega
  have hn : g.n = h.n := by omega
  refine AWp.loopS (α:=Nat) 38 (fun k=>[(2,.c (.ptr 0 0)),(3,.c (.ptr 1 0)),(5,.c (.int .i64 (k : Int)))]) (fun k=>[.box [.int .i64 g.n, .slice (eRows g.es) .none], .box [.int .i64 h.n, .slice (eRows h.es) .none]]) (fun k=>k ≤ g.es.length ∧ ∀ j, j < k → g.es[j]? = h.es[j]?) (fun k=>g.es.length - k) (0) (hk:=Weak.headL 2 38 [2, 3, 5] zW) (h0:=?_) (round:=fun k hI=>?_)
  ·exact ⟨Nat.zero_le _, fun j hj => by omega⟩
  ·obtain ⟨hk, hx⟩ := hI
   by_cases hlt : k < g.es.length
   ·have hlt2 : k < h.es.length := by omega
    have e0 := List.getElem?_eq_getElem hlt
    have e0' := List.getElem?_eq_getElem hlt2
    have e1 := eRows_get e0
    have e2 := eRows_get e0'
    repeat' (first|((first|(refine zT ?_;intro K' hK')|(refine zG ?_ ?_<;>(try refine zH ?_)<;>intro hguard<;>(try exact zX)<;>try intro K' hK'))<;>((try simp +contextual only [go_sem, e1, e2, Int.toNat_natCast, Int.ofNat_lt, eRows_len, cellInt]);(repeat' first|(with_reducible refine hK' _ _ ?_;clear hK' K')|(refine ⟨_, _, rfl, rfl, eqEdge, rfl, ?_⟩)|exact zY|with_reducible refine And.intro ?_ ?_|(with_reducible intro hpath;try exact zP)|(refine hK' _ _ ?_;clear hK' K')|fail);try refine zS ?_))|(refine zE ?_;refine hK _ _ ?_;clear hK K)|(refine zN ?_;try refine zS ?_)|refine zA ?_|(refine zB ?_;intro K hK)|(refine zC ?_ ?_<;>(try refine zH ?_)<;>intro hcond<;>try exact zX)|fail)
    ·have e : ¬ (g.n = h.n ∧ g.es = h.es) := fun e => by
      have := e.2; simp_all
     simp [Rets, aret, Blk.cells, ty, Tryz.results69, ares, toT1, toT, borrow, borrow0, capCell, toTree0, tbool, e]
    ·refine ⟨k + 1,Weak.headN 2 38 [2, 3, 5] zW,?_,?_⟩
     ·refine ⟨hlt, fun j hj => ?_⟩
      by_cases hjk : j = k
      ·subst hjk
       rw [e0, e0']
       cases hg : g.es[j]; cases hh : h.es[j]
       simp_all
      ·exact hx j (by omega)
     ·omega
   ·have e : g.n = h.n ∧ g.es = h.es := ⟨hn, List.ext_getElem? fun j => by
     by_cases hj : j < g.es.length
     ·exact hx j (by omega)
     ·rw [List.getElem?_eq_none (by omega), List.getElem?_eq_none (by omega)]⟩
    refine zR (zc @Int.ofNat_lt (zc @eRows_len trivial)) trivial trivial ?_
    simp [Rets, aret, Blk.cells, ty, Tryz.results69, ares, toT1, toT, borrow, borrow0, capCell, toTree0, tbool, e]
 ·have e : ¬ (g.n = h.n ∧ g.es = h.es) := fun e => by omega
  simp [Rets, aret, Blk.cells, ty, Tryz.results69, ares, toT1, toT, borrow, borrow0, capCell, toTree0, tbool, e]
theorem Min_ok (l : List Int) (hne : l ≠ []) (hl : l.length < 2 ^ 40) : ACall Tryz.prog 105 [tints l] (tint (l.getD (leastN l) 0)) := by
 have hp : 0 < l.length := List.length_pos_iff.2 hne
 have e0 := List.getElem?_eq_getElem hp
 have r0 := iRows_get e0
 have d0 : l.getD 0 0 = l[0] := by rw [List.getD_eq_getElem?_getD, e0]; rfl
 generalize l[0] = x0 at *
 refine ACall.of_body Tryz.func105 rfl (by kernel_rfl) ?_
 simp only [entry, Tryz.ntmps105, tints]
 refine zU ?_
 refine zR (zc @iRows_len (zc @r0 (zc @Int.toNat_zero trivial))) trivial trivial ?_
 have hx0 : x0 = l.getD (leastGo l 0) 0 := d0.symm
 rw [hx0]
 refine AWp.loopS (α:=Nat) 25 (fun i=>[(0,.c (.slice (iRows l) .none)),(3,.c (.int .i64 (l.getD (leastGo l i) 0))),(4,.c (.int .i64 ((i : Int) + 1)))]) (fun i=>[]) (fun i=>i < l.length) (fun i=>l.length - i) (0) (hk:=Weak.headL 0 25 [0, 3, 4] zW) (h0:=?_) (round:=fun i hI=>?_)
 ·exact hp
 ·by_cases hlt : i + 1 < l.length
  ·have hltI : (i : Int) + 1 < l.length := by omega
   have e1 := List.getElem?_eq_getElem hlt
   have r1 := iRows_get e1
   have d1 : l.getD (i + 1) 0 = l[i + 1] := by rw [List.getD_eq_getElem?_getD, e1]; rfl
   have hnx : l.getD (leastGo l (i + 1)) 0 = min (l.getD (leastGo l i) 0) (l.getD (i + 1) 0) := by
    simp only [leastGo]; split <;> omega
   rw [d1] at hnx
   have ht : ((i : Int) + 1).toNat = i + 1 := by omega
   generalize l[i + 1] = y at *
   generalize l.getD (leastGo l i) 0 = m at *
   refine zR (zc @hltI (zc @iRows_len (zc @r1 (zc @ht trivial)))) trivial trivial ?_
   refine ⟨i + 1,Weak.headF 0 25 [0, 3, 4] (zc @hnx trivial) zW,?_,?_⟩
   ·omega
   ·omega
  ·have ei : leastN l = leastGo l i := by unfold leastN; congr 1; omega
   have hnl : ¬ ((i : Int) + 1 < l.length) := by omega
   rw [ei]
   refine zR (zc @hnl (zc @iRows_len trivial)) trivial trivial ?_
   simp [Rets, aret, Blk.cells, ty, Tryz.results105, ares, toT1, toT, borrow, borrow0, capCell, toTree0, tint]
theorem Grow_ok (H : List Blk) (n : Nat) (h0 : 0 < n) (hn : n < 2 ^ 30) : ACallH Tryz.prog 142 H [.c .nils, .c (.int .i64 n)] (H ++ [.box (List.replicate n (.int .i64 0))]) (.c (.ref H.length 1 0 0 n)) := by
 have h0I : (0 : Int) < n := by omega
 have h1I : ¬ ((n : Int) < 0) := by omega
 refine ACallH.of_body Tryz.func142 rfl (by kernel_rfl) ?_
 simp only [entry, Tryz.ntmps142, List.length_cons, List.length_nil, Nat.reduceAdd, Nat.reduceSub, List.replicate_succ, List.replicate_zero, List.cons_append, List.nil_append]
 repeat' (first|((with_reducible refine AWp.seq (AWp.of_reg (id:=3) (AReg.pre 2 (fun K hK=>?_))));simp only [List.take_succ_cons,List.take_zero])|((with_reducible refine AWp.of_reg (id:=3) (AReg.pre 2 (fun K hK=>?_)));simp only [List.take_succ_cons,List.take_zero])|((first|(refine zT ?_;intro K' hK')|(refine zG ?_ ?_<;>(try refine zH ?_)<;>intro hguard<;>(try exact zX)<;>try intro K' hK'))<;>((try simp +contextual only [go_sem, h1I, h0I]);(repeat' first|(with_reducible refine hK' _ _ ?_;clear hK' K')|exact zY|with_reducible refine And.intro ?_ ?_|(with_reducible intro hpath;try exact zP)|(refine hK' _ _ ?_;clear hK' K')|fail);try refine zS ?_))|(refine zE ?_;refine hK _ _ ?_;clear hK K)|(refine zN ?_;try refine zS ?_)|refine zA ?_|(refine zB ?_;intro K hK)|(refine zC ?_ ?_<;>(try refine zH ?_)<;>intro hcond<;>try exact zX)|fail)
 simp only [List.drop_succ_cons, List.drop_zero]
 refine AReg.step (rv := .c (.int .i64 0)) (H' := H) rfl rfl (step_cap_nil (e := 3) _ _ rfl (by simp only [ty]) rfl) ?_
 refine AReg.rest (fun K hK => ?_)
 have e0 : (n : Int) - (0 - ((0 : Nat) : Int)) = n := by omega
 repeat' (first|((with_reducible refine AWp.seq (AWp.of_reg (id:=5) (AReg.pre 2 (fun K hK=>?_))));simp only [List.take_succ_cons,List.take_zero])|((with_reducible refine AWp.of_reg (id:=5) (AReg.pre 2 (fun K hK=>?_)));simp only [List.take_succ_cons,List.take_zero])|((first|(refine zT ?_;intro K' hK')|(refine zG ?_ ?_<;>(try refine zH ?_)<;>intro hguard<;>(try exact zX)<;>try intro K' hK'))<;>((try simp +contextual only [go_sem, h1I, h0I, e0]);(repeat' first|(with_reducible refine hK' _ _ ?_;clear hK' K')|exact zY|with_reducible refine And.intro ?_ ?_|(with_reducible intro hpath;try exact zP)|(refine hK' _ _ ?_;clear hK' K')|fail);try refine zS ?_))|(refine zE ?_;refine hK _ _ ?_;clear hK K)|(refine zN ?_;try refine zS ?_)|refine zA ?_|(refine zB ?_;intro K hK)|(refine zC ?_ ?_<;>(try refine zH ?_)<;>intro hcond<;>try exact zX)|fail)
 simp only [List.drop_succ_cons, List.drop_zero]
 refine AReg.step (rv := .c (.int .i64 0)) (H' := H) rfl rfl (step_cap_nil (e := 3) _ _ rfl (by simp only [ty]) rfl) ?_
 refine AReg.step (rv := .c .nils) (H' := H) rfl rfl (step_part_nil (e := 3) _ _ _ rfl (by simp only [ty]) (by simp only [ty]) rfl rfl) ?_
 refine AReg.pre 1 (fun K hK => ?_)
 simp only [List.take_succ_cons, List.take_zero]
 repeat' (first|((first|(refine zT ?_;intro K' hK')|(refine zG ?_ ?_<;>(try refine zH ?_)<;>intro hguard<;>(try exact zX)<;>try intro K' hK'))<;>((try simp +contextual only [go_sem]);(repeat' first|(with_reducible refine hK' _ _ ?_;clear hK' K')|exact zY|with_reducible refine And.intro ?_ ?_|(with_reducible intro hpath;try exact zP)|(refine hK' _ _ ?_;clear hK' K')|fail);try refine zS ?_))|(refine zE ?_;refine hK _ _ ?_;clear hK K)|(refine zN ?_;try refine zS ?_)|fail)
 simp only [List.drop_succ_cons, List.drop_zero]
 refine AReg.step (rv := .c (.ref H.length 1 0 n n)) (H' := H ++ [.box (List.replicate n (.int .i64 0))]) rfl rfl (step_append_made (e := 3) (by' := 8) (k0 := .i64) _ _ _ _ rfl (by simp only [ty]) (by simp only [ty]) (by simp only [ty]) (by simp only [ty]) (by simp only [ty]) rfl rfl h0 (by omega) (by omega)) ?_
 refine AReg.pre 2 (fun K hK => ?_)
 simp only [List.take_succ_cons, List.take_zero]
 repeat' (first|((first|(refine zT ?_;intro K' hK')|(refine zG ?_ ?_<;>(try refine zH ?_)<;>intro hguard<;>(try exact zX)<;>try intro K' hK'))<;>((try simp +contextual only [go_sem]);(repeat' first|(with_reducible refine hK' _ _ ?_;clear hK' K')|exact zY|with_reducible refine And.intro ?_ ?_|(with_reducible intro hpath;try exact zP)|(refine hK' _ _ ?_;clear hK' K')|fail);try refine zS ?_))|(refine zE ?_;refine hK _ _ ?_;clear hK K)|(refine zN ?_;try refine zS ?_)|fail)
 simp only [List.drop_succ_cons, List.drop_zero]
 refine AReg.step (rv := .c (.ref H.length 1 0 0 n)) (H' := H ++ [.box (List.replicate n (.int .i64 0))]) rfl rfl (step_slice_ref (e := 3) (l := 0) (h := 0) _ _ _ _ rfl (by simp only [ty]) (by simp only [ty]) rfl rfl rfl (Nat.le_refl _) (Nat.zero_le _) (Nat.le_refl _) (.inl rfl)) ?_
 refine AReg.rest (fun K hK => ?_)
 repeat' (first|((first|(refine zT ?_;intro K' hK')|(refine zG ?_ ?_<;>(try refine zH ?_)<;>intro hguard<;>(try exact zX)<;>try intro K' hK'))<;>((try simp +contextual only [go_sem]);(repeat' first|(with_reducible refine hK' _ _ ?_;clear hK' K')|exact zY|with_reducible refine And.intro ?_ ?_|(with_reducible intro hpath;try exact zP)|(refine hK' _ _ ?_;clear hK' K')|fail);try refine zS ?_))|(refine zE ?_;refine hK _ _ ?_;clear hK K)|(refine zN ?_;try refine zS ?_)|refine zA ?_|(refine zB ?_;intro K hK)|(refine zC ?_ ?_<;>(try refine zH ?_)<;>intro hcond<;>try exact zX)|fail)
 simp [RetsH, aretH, ares, noTup, Tryz.results142]
def ltP (x : E) (a b : Int) : Prop := x.a < a ∨ (x.a = a ∧ x.b < b)
instance ltP.dec (x : E) (a b : Int) : Decidable (ltP x a b) := by unfold ltP; infer_instance
end Go.Proofs.YtfkegnhpihoncaaGreat
