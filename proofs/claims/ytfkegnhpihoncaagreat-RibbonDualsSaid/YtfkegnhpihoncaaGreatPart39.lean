/- A part of the proof: contracts of functions of the program, and plain lemmas. -/
import Derived.Test.YtfkegnhpihoncaaGreatPart38
set_option linter.all false
namespace Go.Proofs.YtfkegnhpihoncaaGreat
open Go.Sp
set_option linter.unusedSimpArgs false
set_option linter.unusedVariables false
set_option maxHeartbeats 4000000
set_option maxRecDepth 100000
def triG : G := ⟨3, [⟨0, 1, 1⟩, ⟨0, 2, 1⟩, ⟨1, 2, 1⟩]⟩
def triR : R := ⟨3, [⟨0, 1, 1⟩, ⟨0, 2, 1⟩, ⟨1, 2, 1⟩], [[0, 2], [1, 4], [3, 5]]⟩
def loopR (l : List Int) : R := ⟨1, [⟨0, 0, 2⟩], [l]⟩
theorem tri_joined : joinedE triG = 0 := by kernel_rfl
theorem tri_halves : halvesL (endsL triG.es) triG.n.toNat (2 * (endsL triG.es).length) = [[0, 2], [1, 4], [3, 5]] := by kernel_rfl
theorem tri_rib : ribE triR = 0 := by kernel_rfl
theorem tri_faces : facesI triR = [[0, 4, 3], [1, 2, 5]] := by kernel_rfl
theorem tri_flen : (facesR triR).length = 2 := by kernel_rfl
theorem tri_joins : joinsR triR = [(0, 1), (1, 0), (0, 1)] := by kernel_rfl
theorem tri_num : numI (joinsR triR) = [0, 1, 2] := by kernel_rfl
theorem tri_ar : dualAr triR = [[0, 4, 2], [1, 3, 5]] := by kernel_rfl
theorem tri_bag : bagL [(0, 1), (1, 0), (0, 1)] = [⟨0, 1, 3⟩] := by kernel_rfl
theorem loopA_rib : ribE (loopR [0, 1, 2, 3]) = 0 := by kernel_rfl
theorem loopB_rib : ribE (loopR [0, 2, 1, 3]) = 0 := by kernel_rfl
theorem loopA_faces : facesI (loopR [0, 1, 2, 3]) = [[0, 2], [1], [3]] := by kernel_rfl
theorem loopB_faces : facesI (loopR [0, 2, 1, 3]) = [[0, 3, 1, 2]] := by kernel_rfl
theorem loopA_genus : genusR (loopR [0, 1, 2, 3]) = 0 := by kernel_rfl
theorem loopB_genus : genusR (loopR [0, 2, 1, 3]) = 1 := by kernel_rfl
theorem tri_make : dualM triR = (⟨2, [⟨0, 1, 3⟩]⟩, 0) := by
 unfold dualM
 rw [tri_flen, tri_joins]
 unfold makeE
 rw [if_neg (by decide), if_neg (by decide), if_neg, if_neg, tri_bag]
 ·rw [sortE_eq (l := [⟨0, 1, 3⟩]) (List.pairwise_singleton _ _) (List.Perm.refl _)]; rfl
 ·rw [tri_bag]
  rintro ⟨e, he, h⟩
  simp at he
  subst he
  simp at h
 ·rintro ⟨p, hp, h⟩
  refine h ?_
  simp at hp
  rcases hp with rfl | rfl | rfl <;> decide
theorem tri_dualE : dualE triR = 0 := by
 unfold dualE
 rw [tri_rib, if_neg (by decide), tri_flen, if_neg (by decide), tri_make]
theorem tri_dualD : dualD triR = ⟨2, [⟨0, 1, 3⟩], [[0, 4, 2], [1, 3, 5]]⟩ := by
 unfold dualD
 rw [tri_dualE, if_neg (by decide), tri_make, tri_ar]
theorem tri_dualN : dualN triR = [0, 1, 2] := by
 unfold dualN
 rw [tri_dualE, if_neg (by decide), tri_num]
theorem rsm_tri : RSm triR := ⟨by decide, by decide, by decide⟩
theorem rsm_loop (l : List Int) (h : l.length < 2 ^ 20) : RSm (loopR l) := ⟨by simp [loopR], by simp [loopR], fun x hx => by simp [loopR] at hx; subst hx; exact h⟩
end Go.Proofs.YtfkegnhpihoncaaGreat
