/- A part of the proof. -/
import Derived.Test.YtgklecfiflhjmaaPart25
import Derived.Test.YtgklecfiflhjmaaLayerC
import Derived.Test.YtgklecfiflhjmaaPart14
import Derived.Test.YtgklecfiflhjmaaPart12
import Derived.Test.YtgklecfiflhjmaaLayerD
set_option linter.all false
set_option maxHeartbeats 4000000
set_option maxRecDepth 100000
namespace Go.Proofs.Ytgklecfiflhjmaa
open Go.Sp
def befL : List Int → List Int → Bool
 | [], [] => false
 | [], _ :: _ => true
 | _ :: _, [] => false
 | a :: us, b :: vs => if a = b then befL us vs else decide (a < b)
section
variable {r : R}
end
theorem bef_none {b : List Int} : befL [] b = decide (0 < b.length) := by cases b <;> simp [befL]
theorem bef_end {a : List Int} : befL a [] = false := by cases a <;> rfl
theorem Before_ok (a b : List Int) (ha : a.length < 2 ^ 40) (hb : b.length < 2 ^ 40) : ACall Try.prog 65 [tints a, tints b] (tbool (befL a b)) := by
 refine ACall.of_body Try.func65 rfl (by kernel_rfl) ?_
 simp only [entry, Try.ntmps65, tints]
 refine zU ?_
 refine zR trivial trivial trivial ?_
 refine AWp.loopS (α:=Nat) 41 (fun i=>[(0,.c (.slice (iRows a) .none)),(1,.c (.slice (iRows b) .none)),(5,.c (.int .i64 (i : Int)))]) (fun i=>[]) (fun i=>i ≤ a.length ∧ i ≤ b.length ∧ befL a b = befL (a.drop i) (b.drop i)) (fun i=>a.length - i) (0) (hk:=Weak.headL 0 41 [0, 1, 5] zW) (h0:=?_) (round:=fun i hI=>?_)
 ·exact ⟨Nat.zero_le _, Nat.zero_le _, rfl⟩
 ·obtain ⟨hi, hi2, hx⟩ := hI
  by_cases h1 : i < a.length
  ·have h1I : (i : Int) < a.length := by omega
   by_cases h2 : i < b.length
   ·have h2I : (i : Int) < b.length := by omega
    have e0 := List.getElem?_eq_getElem h1
    have e1 := iRows_get e0
    have f0 := List.getElem?_eq_getElem h2
    have f1 := iRows_get f0
    rw [List.drop_eq_getElem_cons h1, List.drop_eq_getElem_cons h2] at hx
    simp only [befL] at hx
    generalize a[i] = x at *
    generalize b[i] = y at *
    by_cases hxy : x = y
    ·rw [if_pos hxy] at hx
     refine zR (zc @h1I (zc @h2I (zc @iRows_len (zc @e1 (zc @f1 (zc @hxy trivial)))))) trivial trivial ?_
     refine ⟨i + 1,Weak.headN 0 41 [0, 1, 5] zW,?_,?_⟩
     ·exact ⟨h1, h2, hx⟩
     ·omega
    ·rw [if_neg hxy] at hx
     rw [hx]
     by_cases hlt : x < y
     ·rw [decide_eq_true hlt]
      refine zR (zc @h1I (zc @h2I (zc @iRows_len (zc @e1 (zc @f1 (zc @hxy (zc @hlt trivial))))))) trivial trivial ?_
      simp [Rets, aret, Blk.cells, ty, Try.results65, ares, toT1, toT, borrow, borrow0, capCell, toTree0, tbool]
     ·rw [decide_eq_false hlt]
      refine zR (zc @h1I (zc @h2I (zc @iRows_len (zc @e1 (zc @f1 (zc @hxy (zc @hlt trivial))))))) trivial trivial ?_
      simp [Rets, aret, Blk.cells, ty, Try.results65, ares, toT1, toT, borrow, borrow0, capCell, toTree0, tbool]
   ·have h2I : ¬ ((i : Int) < b.length) := by omega
    have e : befL a b = false := by rw [hx, List.drop_eq_nil_of_le (show b.length ≤ i by omega), bef_end]
    have hab : ¬ ((a.length : Int) < b.length) := by omega
    rw [e]
    refine zR (zc @h1I (zc @h2I (zc @iRows_len (zc @hab trivial)))) trivial trivial ?_
    simp [Rets, aret, Blk.cells, ty, Try.results65, ares, toT1, toT, borrow, borrow0, capCell, toTree0, tbool]
  ·have h1I : ¬ ((i : Int) < a.length) := by omega
   have ei : i = a.length := by omega
   have e : befL a b = decide (0 < (b.drop i).length) := by rw [hx, List.drop_eq_nil_of_le (show a.length ≤ i by omega), bef_none]
   rw [List.length_drop] at e
   rw [e]
   by_cases hab : (a.length : Int) < b.length
   ·rw [decide_eq_true (by omega)]
    refine zR (zc @h1I (zc @iRows_len (zc @hab trivial))) trivial trivial ?_
    simp [Rets, aret, Blk.cells, ty, Try.results65, ares, toT1, toT, borrow, borrow0, capCell, toTree0, tbool]
   ·rw [decide_eq_false (by omega)]
    refine zR (zc @h1I (zc @iRows_len (zc @hab trivial))) trivial trivial ?_
    simp [Rets, aret, Blk.cells, ty, Try.results65, ares, toT1, toT, borrow, borrow0, capCell, toTree0, tbool]
end Go.Proofs.Ytgklecfiflhjmaa
