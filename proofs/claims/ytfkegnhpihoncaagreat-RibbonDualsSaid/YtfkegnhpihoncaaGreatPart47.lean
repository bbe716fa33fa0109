/- A part of the proof: contracts of functions of the program, and plain lemmas. -/
import Derived.Test.YtfkegnhpihoncaaGreatPart46
import Derived.Test.YtfkegnhpihoncaaGreatPart41
import Derived.Test.YtfkegnhpihoncaaGreatPart19
import Derived.Test.YtfkegnhpihoncaaGreatLayerC
set_option linter.all false
namespace Go.Proofs.YtfkegnhpihoncaaGreat
open Go.Sp
set_option linter.unusedSimpArgs false
set_option linter.unusedVariables false
set_option maxHeartbeats 4000000
set_option maxRecDepth 100000
theorem rsm_dual {r : R} (hf : fewR r = true) : RSm (dualD r) := by
 by_cases he : dualE r = 0
 case neg =>
  unfold dualD; rw [if_pos he]; exact ⟨by decide, by decide, fun l hl => by cases hl⟩
 have hrib : ribE r = 0 := by
  by_cases h : ribE r = 0
  ·exact h
  ·unfold dualE at he; rw [if_pos h] at he; exact absurd he h
 have hr := rok_of hrib
 have hsz := few_size hf hr.c
 have hfl := facesI_len r
 have hfe := facesR_le r
 have e2 : dualD r = ⟨(dualM r).1.n, (dualM r).1.es, dualAr r⟩ := by unfold dualD; rw [if_neg (by omega)]
 rw [e2]
 refine ⟨?_, ?_, ?_⟩
 ·have hm : (dualM r).1.es.length ≤ (joinsR r).length := by
   unfold dualM makeE
   split
   ·simp
   ·split
    ·simp
    ·split
     ·simp
     ·rename_i h3
      have hok : ∀ p, p ∈ joinsR r → okP ((facesR r).length : Int) p := fun p hp => by
       by_cases q : okP ((facesR r).length : Int) p
       ·exact q
       ·exact absurd ⟨p, hp, q⟩ h3
      have hb := bag_ok hok _ (Nat.le_refl _)
      rw [List.take_length] at hb
      split
      ·simp
      ·show (sortE (bagL (joinsR r))).length ≤ _
       rw [(sortE_perm _).length_eq]; exact hb.len
  rw [joinsR_len] at hm
  simp only; omega
 ·simp only
  unfold dualAr
  rw [List.length_map]; omega
 ·intro l hl
  simp only at hl
  unfold dualAr at hl
  obtain ⟨f, hf2, rfl⟩ := List.mem_map.1 hl
  have := facesI_short hr hf2
  rw [turnL_len, List.length_map]; omega
theorem Duals_ok (r : R) (t : List Int) : ACall Tryz.prog 9 [tR r, tints t] (tbool true) := by
 have hA := awake44_ok
 have f1 := FewR_ok r
 by_cases hr : fewR r = true ∧ t.length ≤ 30
 case neg =>
  by_cases hr1 : fewR r = true
  ·have hb : 30 < t.length := by
    by_cases h : t.length ≤ 30
    ·exact absurd ⟨hr1, h⟩ hr
    ·omega
   have hbI : 30 < (t.length : Int) := by omega
   rw [hr1] at f1
   clear hr hr1
   obtain ⟨n, es, ar⟩ := r
   refine ACall.of_body Tryz.func9 rfl (by kernel_rfl) ?_
   simp only [entry, Tryz.ntmps9, tR, tints]
   refine zU ?_
   refine zR (zc @iRows_len (zc @hbI trivial)) (zc f1 (zc hA trivial)) trivial ?_
   simp [Rets, aret, Blk.cells, ty, Tryz.results9, ares, toT1, toT, borrow, borrow0, capCell, toTree0, tbool]
  ·simp only [Bool.not_eq_true] at hr1
   rw [hr1] at f1
   clear hr hr1
   obtain ⟨n, es, ar⟩ := r
   refine ACall.of_body Tryz.func9 rfl (by kernel_rfl) ?_
   simp only [entry, Tryz.ntmps9, tR, tints]
   refine zU ?_
   refine zR trivial (zc f1 (zc hA trivial)) trivial ?_
   simp [Rets, aret, Blk.cells, ty, Tryz.results9, ares, toT1, toT, borrow, borrow0, capCell, toTree0, tbool]
 obtain ⟨hf, ht⟩ := hr
 rw [hf] at f1
 have hs := rsm_of hf
 have hD := rDual_ok r hs
 have hd := refDual_ok r hs
 have hC := rCotree_ok r hs t (by omega)
 have hc := refCotree_ok r hs t (by omega)
 have hsd := rsm_dual hf
 have hS := SameRR_ok (dualD r) (dualD r) hsd hsd
 rw [(sameR_iff _ _).2 rfl] at hS
 have hdN : (dualN r).length < 2 ^ 40 := by
  unfold dualN
  split
  ·simp
  ·rw [numI_len, joinsR_len]
   rename_i h
   have hrib : ribE r = 0 := by
    by_cases h2 : ribE r = 0
    ·exact h2
    ·unfold dualE at h; rw [if_pos h2] at h; exact absurd h2 (by omega)
   have := ends_len (g := r.g) hs.es (rok_of hrib).c
   have e : r.g.es = r.es := rfl
   rw [e] at this
   omega
 have hcN : (cotR r t).length < 2 ^ 40 := by
  unfold cotR
  split
  ·simp
  ·rw [(sortI_perm _).length_eq]
   have := cotL_len (dualN r) t (dualN r).length
   omega
 have q1 := Equal_ok (dualN r) (dualN r) hdN hdN
 have q2 := Equal_ok (cotR r t) (cotR r t) hcN hcN
 rw [decide_eq_true rfl] at q1 q2
 have htI : ¬ (30 < (t.length : Int)) := by omega
 generalize dualD r = D at *
 generalize dualN r = N at *
 generalize dualE r = E at *
 generalize cotR r t = X at *
 generalize cotE r t = Y at *
 clear hf hs hsd hdN hcN
 obtain ⟨dn, des, dar⟩ := D
 obtain ⟨n, es, ar⟩ := r
 simp only [tR] at hD hd hS
 refine ACall.of_body Tryz.func9 rfl (by kernel_rfl) ?_
 simp only [entry, Tryz.ntmps9, tR, tints]
 refine zU ?_
 repeat' (first|((first|(refine zT ?_;intro K' hK')|(refine zG ?_ ?_<;>(try refine zH ?_)<;>intro hguard<;>(try exact zX)<;>try intro K' hK'))<;>((try simp +contextual only [go_sem, iRows_len, htI]);(repeat' first|(with_reducible refine hK' _ _ ?_;clear hK' K')|((with_reducible first|refine zK f1 ?_|refine zK hD ?_|refine zK hd ?_|refine zK hC ?_|refine zK hc ?_|refine zK hA ?_|refine zK hS ?_|refine zK q1 ?_|refine zK q2 ?_);try simp +contextual only [go_sem, iRows_len, htI])|exact zY|with_reducible refine And.intro ?_ ?_|(with_reducible intro hpath;try exact zP)|(refine hK' _ _ ?_;clear hK' K')|fail);try refine zS ?_))|(refine zE ?_;refine hK _ _ ?_;clear hK K)|(refine zN ?_;try refine zS ?_)|refine zA ?_|(refine zB ?_;intro K hK)|(refine zC ?_ ?_<;>(try refine zH ?_)<;>intro hcond<;>try exact zX)|fail)
 simp [Rets, aret, Blk.cells, ty, Tryz.results9, ares, toT1, toT, borrow, borrow0, capCell, toTree0, tbool]
end Go.Proofs.YtfkegnhpihoncaaGreat
