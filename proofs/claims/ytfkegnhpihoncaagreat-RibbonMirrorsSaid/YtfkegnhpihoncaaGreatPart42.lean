/- A part of the proof: contracts of functions of the program, and plain lemmas. -/
import Derived.Test.YtfkegnhpihoncaaGreatPart35
import Derived.Test.YtfkegnhpihoncaaGreatPart40
import Derived.Test.YtfkegnhpihoncaaGreatPart41
import Derived.Test.YtfkegnhpihoncaaGreatPart28
import Derived.Test.YtfkegnhpihoncaaGreatLayerC
import Derived.Test.YtfkegnhpihoncaaGreatPart36
set_option linter.all false
namespace Go.Proofs.YtfkegnhpihoncaaGreat
open Go.Sp
set_option linter.unusedSimpArgs false
set_option linter.unusedVariables false
set_option maxHeartbeats 4000000
set_option maxRecDepth 100000
def rightR (r : R) : Bool := fewR r && decide (ribE r = 0)
theorem rightR_ok (r : R) : ACall Tryz.prog 19 [tR r] (tbool (rightR r)) := by
  have f1 := FewR_ok r
  unfold rightR
  by_cases hr : fewR r = true
  · have hC := refCheck_ok r (rsm_of hr)
    rw [hr] at f1 ⊢
    rw [Bool.true_and]
    generalize ribE r = E at *
    clear hr
    obtain ⟨n, es, ar⟩ := r
    refine ACall.of_body Tryz.func19 rfl (by kernel_rfl) ?_
    simp only [entry, Tryz.ntmps19, tR]
    refine zU ?_
    by_cases hE : E = 0
    · rw [decide_eq_true hE]
      refine zR (zc @hE trivial) (zc f1 (zc hC trivial)) trivial ?_
      simp [Rets, aret, Blk.cells, ty, Tryz.results19, ares, toT1, toT, borrow, borrow0, capCell, toTree0, tbool]
    · rw [decide_eq_false hE]
      refine zR (zc @hE trivial) (zc f1 (zc hC trivial)) trivial ?_
      simp [Rets, aret, Blk.cells, ty, Tryz.results19, ares, toT1, toT, borrow, borrow0, capCell, toTree0, tbool]
  · simp only [Bool.not_eq_true] at hr
    rw [hr] at f1 ⊢
    rw [Bool.false_and]
    clear hr
    obtain ⟨n, es, ar⟩ := r
    refine ACall.of_body Tryz.func19 rfl (by kernel_rfl) ?_
    simp only [entry, Tryz.ntmps19, tR]
    refine zU ?_
    refine zR trivial (zc f1 trivial) trivial ?_
    simp [Rets, aret, Blk.cells, ty, Tryz.results19, ares, toT1, toT, borrow, borrow0, capCell, toTree0, tbool]
theorem rightR_iff {r : R} : rightR r = true ↔ fewR r = true ∧ ribE r = 0 := by
  unfold rightR; rw [Bool.and_eq_true, decide_eq_true_eq]
end Go.Proofs.YtfkegnhpihoncaaGreat
set_option linter.all false
namespace Go.Proofs.YtfkegnhpihoncaaGreat
open Go.Sp
set_option linter.unusedSimpArgs false
set_option linter.unusedVariables false
set_option maxHeartbeats 4000000
set_option maxRecDepth 100000
def allB (h : Nat) (F : List Nat) (i : Nat) : Bool := (F.take i).all fun y => decide (h ≤ y)
end Go.Proofs.YtfkegnhpihoncaaGreat
