/- A part of the proof: contracts of functions of the program, and plain lemmas. -/
import Derived.Test.YtfkegnhpihoncaaGreatPart37
import Derived.Test.YtfkegnhpihoncaaGreatLayerC
set_option linter.all false
namespace Go.Proofs.YtfkegnhpihoncaaGreat
open Go.Sp
set_option linter.unusedSimpArgs false
set_option linter.unusedVariables false
set_option maxHeartbeats 4000000
set_option maxRecDepth 100000
theorem rDual_ok (r : R) (hs : RSm r) : ACall Tryz.prog 23 [tR r] (.tup [tR (dualD r), tints (dualN r), tint (dualE r)]) := by
 have hC := rchecked_ok r hs
 by_cases he : ribE r = 0
 case neg =>
  have e1 : dualE r = ribE r := by unfold dualE; rw [if_pos he]
  have e2 : dualD r = ⟨0, [], []⟩ := by unfold dualD; rw [if_pos (by rw [e1]; exact he)]
  have e3 : dualN r = [] := by unfold dualN; rw [if_pos (by rw [e1]; exact he)]
  rw [e1, e2, e3]
  rw [if_pos he] at hC
  clear e1 e2 e3
  generalize ribE r = E at *
  obtain ⟨n, es, ar⟩ := r
  refine ACall.of_body Tryz.func23 rfl (by kernel_rfl) ?_
  simp only [entry, Tryz.ntmps23, tR]
  refine zU ?_
  refine zR (zc @he trivial) (zc hC trivial) trivial ?_
  simp [Rets, aret, Blk.cells, ty, Tryz.results23, ares, toT1, toT, borrow, borrow0, capCell, toTree0, tint, tR, tints, eRows, llRows, iRows]
 have hr := rok_of he
 have hF := faces_ok r hs hr
 have hlen : (endsL r.es).length ≤ 2000 := ends_len (g := r.g) hs.es hr.c
 rw [if_neg (by omega), he] at hC
 have hfl := facesI_len r
 by_cases h12 : 12 < (facesR r).length
 ·have e1 : dualE r = 5 := by unfold dualE; rw [if_neg (by omega), if_pos h12]
  have e2 : dualD r = ⟨0, [], []⟩ := by unfold dualD; rw [if_pos (by rw [e1]; decide)]
  have e3 : dualN r = [] := by unfold dualN; rw [if_pos (by rw [e1]; decide)]
  rw [e1, e2, e3]
  have h12I : 12 < ((facesI r).length : Int) := by omega
  clear e1 e2 e3
  generalize facesI r = F at *
  generalize tabI (2 * (endsL r.es).length) (ofN (fR (endsL r.es) r.ar) (2 * (endsL r.es).length) (2 * (endsL r.es).length)) = O at *
  generalize endsL r.es = L at *
  clear he hs hr hfl h12
  obtain ⟨n, es, ar⟩ := r
  refine ACall.of_body Tryz.func23 rfl (by kernel_rfl) ?_
  simp only [entry, Tryz.ntmps23, tR]
  refine zU ?_
  refine zR (zc @pRows_len (zc @llRows_len (zc @h12I trivial))) (zc hC (zc hF trivial)) trivial ?_
  simp [Rets, aret, Blk.cells, ty, Tryz.results23, ares, toT1, toT, borrow, borrow0, capCell, toTree0, tint, tR, tints, eRows, llRows, iRows]
 ·have e1 : dualE r = (dualM r).2 := by unfold dualE; rw [if_neg (by omega), if_neg h12]
  have hja := jK_all r
  have hMk := Make_ok (facesR r).length (joinsR r) (by rw [joinsR_len]; omega)
  have hW := dual_walk r.n r.es r.ar (endsL r.es) (facesI r) (tabI (2 * (endsL r.es).length) (ofF r)) (dualM r) hC hF (by rw [hja, hfl]; exact hMk) hlen (tabI_len _ _) (fun v hv => by
   obtain ⟨x, _, rfl⟩ := List.mem_map.1 hv
   have := ofN_range (fR (endsL r.es) r.ar) (2 * (endsL r.es).length) (2 * (endsL r.es).length) x
   unfold ofF; omega) (by omega) (fun l hl x hx => facesI_mem hr hl hx) (fun l hl => facesI_short hr hl)
  rw [hja] at hW
  unfold dualD dualN dualAr
  rw [e1]
  exact hW
end Go.Proofs.YtfkegnhpihoncaaGreat
