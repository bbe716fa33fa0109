/- A part of the proof. -/
import Derived.Test.YtgklecfiflhjmaaPart19
import Derived.Test.YtgklecfiflhjmaaPart14
import Derived.Test.YtgklecfiflhjmaaPart08
import Derived.Test.YtgklecfiflhjmaaPart06
import Derived.Test.YtgklecfiflhjmaaPart09
import Derived.Test.YtgklecfiflhjmaaPart13
import Derived.Test.YtgklecfiflhjmaaLayerC
import Derived.Test.YtgklecfiflhjmaaPart02
set_option linter.all false
set_option maxHeartbeats 4000000
set_option maxRecDepth 100000
namespace Go.Proofs.Ytgklecfiflhjmaa
open Go.Sp
def edgE (g : G) (l : List Int) : Int := if checkG g ≠ 0 then checkG g else subE (endsL g.es).length none l
theorem cEdges_ok (g : G) (l : List Int) (hg : g.es.length ≤ 40) (hl : l.length < 2 ^ 40) : ACall Try.prog 35 [tG g, tints l] (tint (edgE g l)) := by
 have hS := Size_ok g (by omega)
 unfold edgE
 by_cases hc : checkG g = 0
 case neg =>
  rw [if_pos hc]
  rw [if_pos hc] at hS
  generalize checkG g = E at *
  obtain ⟨n, es⟩ := g
  refine ACall.of_body Try.func35 rfl (by kernel_rfl) ?_
  simp only [entry, Try.ntmps35, tG, tints]
  refine zU ?_
  refine zR (zc @hc trivial) (zc hS trivial) trivial ?_
  simp [Rets, aret, Blk.cells, ty, Try.results35, ares, toT1, toT, borrow, borrow0, capCell, toTree0, tint]
 rw [if_neg (by omega)]
 rw [if_neg (by omega), hc] at hS
 have hlen := ends_len hg hc
 generalize (endsL g.es).length = N at *
 clear hc hg
 obtain ⟨n, es⟩ := g
 refine ACall.of_body Try.func35 rfl (by kernel_rfl) ?_
 simp only [entry, Try.ntmps35, tG, tints]
 refine zU ?_
 refine zR (zc @iRows_len trivial) (zc hS trivial) trivial ?_
 refine AWp.loopS (α:=Nat) 45 (fun k=>[(1,.c (.slice (iRows l) .none)),(2,.c (.ptr 0 0)),(5,.c (.int .i64 (N : Int))),(17,.c (.slice (iRows l) .none)),(18,.c (.int .i64 l.length)),(19,.c (.int .i64 (k : Int)))]) (fun k=>[.box [.int .i64 n, .slice (eRows es) .none]]) (fun k=>k ≤ l.length ∧ subE N none l = subE N (match k with | 0 => none | j + 1 => l[j]?) (l.drop k)) (fun k=>l.length - k) (0) (hk:=Weak.headL 1 45 [1, 2, 5, 17, 18, 19] zW) (h0:=?_) (round:=fun k hI=>?_)
 ·exact ⟨Nat.zero_le _, rfl⟩
 ·obtain ⟨hk, hx⟩ := hI
  by_cases hlt : k < l.length
  ·have hltI : (k : Int) < l.length := by omega
   have e0 := List.getElem?_eq_getElem hlt
   have e1 := iRows_get e0
   rw [List.drop_eq_getElem_cons hlt, subE] at hx
   generalize hv : l[k] = v at *
   by_cases v0 : v < 0
   ·rw [if_pos (by omega)] at hx
    rw [hx]
    refine zR (zc @hltI (zc @e1 (zc @v0 trivial))) trivial trivial ?_
    simp [Rets, aret, Blk.cells, ty, Try.results35, ares, toT1, toT, borrow, borrow0, capCell, toTree0, tint]
   by_cases v1 : (N : Int) ≤ v
   ·rw [if_pos (by omega)] at hx
    rw [hx]
    refine zR (zc @hltI (zc @e1 (zc @v0 (zc @v1 trivial)))) trivial trivial ?_
    simp [Rets, aret, Blk.cells, ty, Try.results35, ares, toT1, toT, borrow, borrow0, capCell, toTree0, tint]
   rw [if_neg (by omega)] at hx
   cases k with
   | zero =>
    simp only [reduceCtorEq, false_and, exists_false, if_false] at hx
    refine zR (zc @hltI (zc @e1 (zc @v0 (zc @v1 trivial)))) trivial trivial ?_
    refine ⟨0 + 1,Weak.headN 1 45 [1, 2, 5, 17, 18, 19] zW,?_,?_⟩
    ·exact ⟨hlt, hx.trans (by simp only [e0])⟩
    ·omega
   | succ j =>
    have e2 := List.getElem?_eq_getElem (show j < l.length by omega)
    have e3 := iRows_get e2
    have hj1 : ((j + 1 : Nat) : Int) - 1 = (j : Int) := by omega
    have hj2 : (0 : Int) < ((j + 1 : Nat) : Int) := by omega
    have hj3 : (j : Int) < l.length := by omega
    simp only [e2, Option.some.injEq, exists_eq_left'] at hx
    generalize hu : l[j] = u at *
    by_cases hvu : v ≤ u
    ·rw [if_pos hvu] at hx
     rw [hx]
     refine zR (zc @hltI (zc @e1 (zc @e3 (zc @hj1 (zc @hj2 (zc @hj3 (zc @iRows_len (zc @v0 (zc @v1 (zc @hvu trivial)))))))))) trivial trivial ?_
     simp [Rets, aret, Blk.cells, ty, Try.results35, ares, toT1, toT, borrow, borrow0, capCell, toTree0, tint]
    ·rw [if_neg hvu] at hx
     refine zR (zc @hltI (zc @e1 (zc @e3 (zc @hj1 (zc @hj2 (zc @hj3 (zc @iRows_len (zc @v0 (zc @v1 (zc @hvu trivial)))))))))) trivial trivial ?_
     refine ⟨j + 1 + 1,Weak.headN 1 45 [1, 2, 5, 17, 18, 19] zW,?_,?_⟩
     ·exact ⟨hlt, hx.trans (by simp only [e0])⟩
     ·omega
  ·have e : k = l.length := by omega
   have e : subE N none l = 0 := by rw [hx, e, List.drop_length]; rfl
   have hnl : ¬ ((k : Int) < l.length) := by omega
   rw [e]
   refine zR (zc @hnl trivial) trivial trivial ?_
   simp [Rets, aret, Blk.cells, ty, Try.results35, ares, toT1, toT, borrow, borrow0, capCell, toTree0, tint]
end Go.Proofs.Ytgklecfiflhjmaa
