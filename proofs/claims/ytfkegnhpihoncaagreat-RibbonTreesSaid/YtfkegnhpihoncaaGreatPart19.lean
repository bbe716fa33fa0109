/- A part of the proof. -/
import Derived.Test.YtfkegnhpihoncaaGreatPart18
import Derived.Test.YtfkegnhpihoncaaGreatPart12
import Derived.Test.YtfkegnhpihoncaaGreatPart14
import Derived.Test.YtfkegnhpihoncaaGreatPart16
import Derived.Test.YtfkegnhpihoncaaGreatLayerC
set_option linter.all false
set_option maxHeartbeats 4000000
set_option maxRecDepth 100000
namespace Go.Proofs.YtfkegnhpihoncaaGreat
open Go.Sp
instance ltE.dec : DecidableRel ltE := fun x y => by unfold ltE; infer_instance
def part : G := ⟨3, [⟨0, 1, 2⟩, ⟨0, 2, 1⟩]⟩
theorem subE_zero {n : Int} : ∀ {l : List Int} {u : Option Int}, (∀ x, x ∈ l → 0 ≤ x ∧ x < n) → l.Pairwise (· < ·) → (∀ w, u = some w → ∀ x, x ∈ l → w < x) → subE n u l = 0
 | [], _, _, _, _ => rfl
 | x :: xs, u, h1, h2, h3 => by
  have := h1 x (by simp)
  have hp := List.pairwise_cons.1 h2
  simp only [subE]
  rw [if_neg (by omega), if_neg (by rintro ⟨w, hw, hx⟩; have := h3 w hw x (by simp); omega)]
  refine subE_zero (fun y hy => h1 y (by simp [hy])) hp.2 fun w hw y hy => ?_
  cases hw; exact hp.1 y hy
end Go.Proofs.YtfkegnhpihoncaaGreat
