/- A part of the proof: contracts of functions of the program, and plain lemmas. -/
import Derived.Test.YtfkegnhpihoncaaGreatPart39
import Derived.Test.YtfkegnhpihoncaaGreatPart33
import Derived.Test.YtfkegnhpihoncaaGreatLayerC
set_option linter.all false
namespace Go.Proofs.YtfkegnhpihoncaaGreat
open Go.Sp
set_option linter.unusedSimpArgs false
set_option linter.unusedVariables false
set_option maxHeartbeats 4000000
set_option maxRecDepth 100000
theorem Triangle_ok : ACall Tryz.prog 47 [] (tG triG) := by
  refine ACall.of_body Tryz.func47 rfl (by kernel_rfl) ?_
  simp only [entry, Tryz.ntmps47]
  refine zU ?_
  refine zRc trivial trivial trivial ?_
  simp [Rets, aret, Blk.cells, ty, Tryz.results47, ares, toT1, toT, borrow, borrow0, capCell, toTree0, tG, eRows, eRow, triG]
theorem Loops_ok (l : List Int) : ACall Tryz.prog 48 [tints l] (tR (loopR l)) := by
  refine ACall.of_body Tryz.func48 rfl (by kernel_rfl) ?_
  simp only [entry, Tryz.ntmps48, tints]
  refine zU ?_
  refine zRc trivial trivial trivial ?_
  simp [Rets, aret, Blk.cells, ty, Tryz.results48, ares, toT1, toT, borrow, borrow0, capCell, toTree0, tR, eRows, eRow, llRows, loopR]
theorem awake44_ok : ACall Tryz.prog 12 [] (tbool true) := by
  have hT := Triangle_ok
  have hD0 := rDefault_ok triG (by decide)
  rw [if_neg (by rw [tri_joined]; decide), tri_joined, tri_halves] at hD0
  have hD : ACall Tryz.prog 28 [tG triG] (.tup [tR triR, tint 0]) := hD0
  have hF := rFaces_ok triR rsm_tri
  rw [if_neg (by rw [tri_rib]; decide), tri_rib, tri_faces] at hF
  have hU := rDual_ok triR rsm_tri
  rw [tri_dualD, tri_dualN, tri_dualE] at hU
  have s1 := SameLists_ok [[0, 2], [1, 4], [3, 5]] [[0, 2], [1, 4], [3, 5]] (by decide) (by decide) (by decide) (by decide)
  have s2 := SameLists_ok [[0, 4, 3], [1, 2, 5]] [[0, 4, 3], [1, 2, 5]] (by decide) (by decide) (by decide) (by decide)
  have s3 := SameRR_ok ⟨2, [⟨0, 1, 3⟩], [[0, 4, 2], [1, 3, 5]]⟩ ⟨2, [⟨0, 1, 3⟩], [[0, 4, 2], [1, 3, 5]]⟩ ⟨by decide, by decide, by decide⟩ ⟨by decide, by decide, by decide⟩
  rw [(sameR_iff _ _).2 rfl] at s3
  have s4 := Equal_ok [0, 1, 2] [0, 1, 2] (by decide) (by decide)
  have l1 := Loops_ok [0, 1, 2, 3]
  have l2 := Loops_ok [0, 2, 1, 3]
  have f1 := rFaces_ok (loopR [0, 1, 2, 3]) (rsm_loop _ (by decide))
  rw [if_neg (by rw [loopA_rib]; decide), loopA_rib, loopA_faces] at f1
  have f2 := rFaces_ok (loopR [0, 2, 1, 3]) (rsm_loop _ (by decide))
  rw [if_neg (by rw [loopB_rib]; decide), loopB_rib, loopB_faces] at f2
  have g1 := rGenus_ok (loopR [0, 1, 2, 3]) (rsm_loop _ (by decide))
  rw [if_neg (by rw [loopA_rib]; decide), loopA_rib, loopA_genus] at g1
  have g2 := rGenus_ok (loopR [0, 2, 1, 3]) (rsm_loop _ (by decide))
  rw [if_neg (by rw [loopB_rib]; decide), loopB_rib, loopB_genus] at g2
  have s5 := SameLists_ok [[0, 2], [1], [3]] [[0, 2], [1], [3]] (by decide) (by decide) (by decide) (by decide)
  have s6 := SameLists_ok [[0, 3, 1, 2]] [[0, 3, 1, 2]] (by decide) (by decide) (by decide) (by decide)
  rw [decide_eq_true rfl] at s1 s2 s4 s5 s6
  unfold tR triR at hD hF hU
  unfold tR at s3
  unfold tR loopR at l1 l2 f1 f2 g1 g2
  unfold tlists at hF s1 s2 s5 s6 f1 f2
  simp only at hD hF hU s3 l1 l2 f1 f2 g1 g2
  refine ACall.of_body Tryz.func12 rfl (by kernel_rfl) ?_
  simp only [entry, Tryz.ntmps12]
  refine zU ?_
  repeat' (first|((first|(refine zT ?_;intro K' hK')|(refine zG ?_ ?_<;>(try refine zH ?_)<;>intro hguard<;>(try exact zX)<;>try intro K' hK'))<;>((try simp +contextual only [go_sem, chunks, List.range, List.range.loop]);(repeat' first|(with_reducible refine hK' _ _ ?_;clear hK' K')|((with_reducible first|refine zK hT ?_|refine zK hD ?_|refine zK hF ?_|refine zK hU ?_|refine zK s1 ?_|refine zK s2 ?_|refine zK s3 ?_|refine zK s4 ?_|refine zK l1 ?_|refine zK l2 ?_|refine zK f1 ?_|refine zK f2 ?_|refine zK g1 ?_|refine zK g2 ?_|refine zK s5 ?_|refine zK s6 ?_);try simp +contextual only [go_sem, chunks, List.range, List.range.loop])|exact zY|with_reducible refine And.intro ?_ ?_|(with_reducible intro hpath;try exact zP)|(refine hK' _ _ ?_;clear hK' K')|fail);try refine zS ?_))|(refine zE ?_;refine hK _ _ ?_;clear hK K)|(refine zN ?_;try refine zS ?_)|refine zA ?_|(refine zB ?_;intro K hK)|(refine zC ?_ ?_<;>(try refine zH ?_)<;>intro hcond<;>try exact zX)|fail)
  simp [Rets, aret, Blk.cells, ty, Tryz.results12, ares, toT1, toT, borrow, borrow0, capCell, toTree0, tbool]
end Go.Proofs.YtfkegnhpihoncaaGreat
