/- A part of the proof: contracts of functions of the program, and plain lemmas. -/
import Derived.Test.YtfkegnhpihoncaaGreatPart39
import Derived.Test.YtfkegnhpihoncaaGreatPart33
import Derived.Test.YtfkegnhpihoncaaGreatLayerC
import Derived.Test.YtfkegnhpihoncaaGreatPart32
import Derived.Test.YtfkegnhpihoncaaGreatPart35
import Derived.Test.YtfkegnhpihoncaaGreatPart36
set_option linter.all false
namespace Go.Proofs.YtfkegnhpihoncaaGreat
open Go.Sp
set_option linter.unusedSimpArgs false
set_option linter.unusedVariables false
set_option maxHeartbeats 4000000
set_option maxRecDepth 100000
theorem Triangle_ok : ACall Tryz.prog 47 [] (tG triG) := by
 refine ACall.of_body Tryz.func47 rfl (by kernel_rfl) ?_
 simp only [entry, Tryz.ntmps47]
 refine zU ?_
 refine zRc trivial trivial trivial ?_
 simp [Rets, aret, Blk.cells, ty, Tryz.results47, ares, toT1, toT, borrow, borrow0, capCell, toTree0, tG, eRows, eRow, triG]
theorem Loops_ok (l : List Int) : ACall Tryz.prog 48 [tints l] (tR (loopR l)) := by
 refine ACall.of_body Tryz.func48 rfl (by kernel_rfl) ?_
 simp only [entry, Tryz.ntmps48, tints]
 refine zU ?_
 refine zRc trivial trivial trivial ?_
 simp [Rets, aret, Blk.cells, ty, Tryz.results48, ares, toT1, toT, borrow, borrow0, capCell, toTree0, tR, eRows, eRow, llRows, loopR]
theorem awake44_ok : ACall Tryz.prog 12 [] (tbool true) := by
 have hT := Triangle_ok
 have hD0 := rDefault_ok triG (by decide)
 rw [if_neg (by rw [tri_joined]; decide), tri_joined, tri_halves] at hD0
 have hD : ACall Tryz.prog 28 [tG triG] (.tup [tR triR, tint 0]) := hD0
 have hF := rFaces_ok triR rsm_tri
 rw [if_neg (by rw [tri_rib]; decide), tri_rib, tri_faces] at hF
 have hU := rDual_ok triR rsm_tri
 rw [tri_dualD, tri_dualN, tri_dualE] at hU
 have s1 := SameLists_ok [[0, 2], [1, 4], [3, 5]] [[0, 2], [1, 4], [3, 5]] (by decide) (by decide) (by decide) (by decide)
 have s2 := SameLists_ok [[0, 4, 3], [1, 2, 5]] [[0, 4, 3], [1, 2, 5]] (by decide) (by decide) (by decide) (by decide)
 have s3 := SameRR_ok ⟨2, [⟨0, 1, 3⟩], [[0, 4, 2], [1, 3, 5]]⟩ ⟨2, [⟨0, 1, 3⟩], [[0, 4, 2], [1, 3, 5]]⟩ ⟨by decide, by decide, by decide⟩ ⟨by decide, by decide, by decide⟩
 rw [(sameR_iff _ _).2 rfl] at s3
 have s4 := Equal_ok [0, 1, 2] [0, 1, 2] (by decide) (by decide)
 have l1 := Loops_ok [0, 1, 2, 3]
 have l2 := Loops_ok [0, 2, 1, 3]
 have f1 := rFaces_ok (loopR [0, 1, 2, 3]) (rsm_loop _ (by decide))
 rw [if_neg (by rw [loopA_rib]; decide), loopA_rib, loopA_faces] at f1
 have f2 := rFaces_ok (loopR [0, 2, 1, 3]) (rsm_loop _ (by decide))
 rw [if_neg (by rw [loopB_rib]; decide), loopB_rib, loopB_faces] at f2
 have g1 := rGenus_ok (loopR [0, 1, 2, 3]) (rsm_loop _ (by decide))
 rw [if_neg (by rw [loopA_rib]; decide), loopA_rib, loopA_genus] at g1
 have g2 := rGenus_ok (loopR [0, 2, 1, 3]) (rsm_loop _ (by decide))
 rw [if_neg (by rw [loopB_rib]; decide), loopB_rib, loopB_genus] at g2
 have s5 := SameLists_ok [[0, 2], [1], [3]] [[0, 2], [1], [3]] (by decide) (by decide) (by decide) (by decide)
 have s6 := SameLists_ok [[0, 3, 1, 2]] [[0, 3, 1, 2]] (by decide) (by decide) (by decide) (by decide)
 rw [decide_eq_true rfl] at s1 s2 s4 s5 s6
 unfold tR triR at hD hF hU
 unfold tR at s3
 unfold tR loopR at l1 l2 f1 f2 g1 g2
 unfold tlists at hF s1 s2 s5 s6 f1 f2
 simp only at hD hF hU s3 l1 l2 f1 f2 g1 g2
 refine ACall.of_body Tryz.func12 rfl (by kernel_rfl) ?_
 simp only [entry, Tryz.ntmps12]
 refine zU ?_
 repeat' (first|((first|(refine zT ?_;intro K' hK')|(refine zG ?_ ?_<;>(try refine zH ?_)<;>intro hguard<;>(try exact zX)<;>try intro K' hK'))<;>((try simp +contextual only [go_sem, chunks, List.range, List.range.loop]);(repeat' first|(with_reducible refine hK' _ _ ?_;clear hK' K')|((with_reducible first|refine zK hT ?_|refine zK hD ?_|refine zK hF ?_|refine zK hU ?_|refine zK s1 ?_|refine zK s2 ?_|refine zK s3 ?_|refine zK s4 ?_|refine zK l1 ?_|refine zK l2 ?_|refine zK f1 ?_|refine zK f2 ?_|refine zK g1 ?_|refine zK g2 ?_|refine zK s5 ?_|refine zK s6 ?_);try simp +contextual only [go_sem, chunks, List.range, List.range.loop])|exact zY|with_reducible refine And.intro ?_ ?_|(with_reducible intro hpath;try exact zP)|(refine hK' _ _ ?_;clear hK' K')|fail);try refine zS ?_))|(refine zE ?_;refine hK _ _ ?_;clear hK K)|(refine zN ?_;try refine zS ?_)|refine zA ?_|(refine zB ?_;intro K hK)|(refine zC ?_ ?_<;>(try refine zH ?_)<;>intro hcond<;>try exact zX)|fail)
 simp [Rets, aret, Blk.cells, ty, Tryz.results12, ares, toT1, toT, borrow, borrow0, capCell, toTree0, tbool]
end Go.Proofs.YtfkegnhpihoncaaGreat
set_option linter.all false
namespace Go.Proofs.YtfkegnhpihoncaaGreat
open Go.Sp
set_option linter.unusedSimpArgs false
set_option linter.unusedVariables false
def nrmP (p : Int × Int) : Int × Int := (min p.1 p.2, max p.1 p.2)
def lexP (p q : Int × Int) : Prop := p.1 < q.1 ∨ (p.1 = q.1 ∧ p.2 ≤ q.2)
theorem ends_sorted {es : List E} (hs : es.Pairwise ltE) : (endsL es).Pairwise lexP := by
 induction es with
 | nil => exact List.Pairwise.nil
 | cons x xs ih =>
  have hp := List.pairwise_cons.1 hs
  have e : endsL (x :: xs) = endsL [x] ++ endsL xs := by rw [← endsL_append]; rfl
  rw [e, endsL_one, List.pairwise_append]
  refine ⟨?_, ih hp.2, fun a ha b hb => ?_⟩
  ·rw [List.pairwise_replicate]
   exact .inr (.inr ⟨rfl, Int.le_refl _⟩)
  ·obtain ⟨-, rfl⟩ := List.mem_replicate.1 ha
   obtain ⟨y, hy, rfl⟩ := endsL_mem hb
   have := hp.1 y hy
   unfold ltE at this
   unfold lexP
   simp only
   omega
theorem perm_of_count {l m : List (Int × Int)} (hl : ∀ p, p ∈ l → p.1 ≤ p.2) (hm : ∀ p, p ∈ m → p.1 ≤ p.2) (h : ∀ a b, l.countP (isP a b) = m.countP (isP a b)) : l.Perm m := by
 rw [List.perm_iff_count]
 intro p
 have key : ∀ k : List (Int × Int), (∀ q, q ∈ k → q.1 ≤ q.2) → k.count p = if p.1 ≤ p.2 then k.countP (isP p.1 p.2) else 0 := fun k hk => by
  by_cases hp : p.1 ≤ p.2
  ·rw [if_pos hp, List.count]
   refine List.countP_congr fun q hq => ?_
   have := hk q hq
   obtain ⟨a, b⟩ := p
   obtain ⟨c, d⟩ := q
   unfold isP
   simp only at this hp ⊢
   rw [beq_iff_eq, Prod.mk.injEq, decide_eq_true_eq]
   omega
  ·rw [if_neg hp, List.count_eq_zero]
   exact fun hq => hp (hk p hq)
 rw [key l hl, key m hm, h]
theorem lexP_anti {p q : Int × Int} (h1 : lexP p q) (h2 : lexP q p) : p = q := by
 obtain ⟨a, b⟩ := p
 obtain ⟨c, d⟩ := q
 unfold lexP at h1 h2
 simp only at h1 h2
 rw [Prod.mk.injEq]; omega
theorem made_ends {n : Int} {J : List (Int × Int)} {zs : List Nat} (hJ : ∀ p, p ∈ J → okP n p) (hz : NOrd J zs) :
  endsL (sortE (bagL J)) = zs.map fun e => nrmP (J.getD e (0, 0)) := by
 have hb := bag_ok hJ J.length (Nat.le_refl _)
 rw [List.take_length] at hb
 have hsort := sortE_sorted hb.d
 have hcnt : ∀ a b, cntL (bagL J) a b = (J.countP (isP a b) : Int) := fun a b => by
  have e := cntL_bag J a b J.length (Nat.le_refl _)
  rwa [List.take_length] at e
 have hr : ∀ e, e ∈ sortE (bagL J) → e.a ≤ e.b ∧ 1 ≤ e.m := fun e he => by
  have he' := (sortE_perm (bagL J)).mem_iff.1 he
  have h1 := hb.m e he'
  have h2 := hb.r e he'
  omega
 have hd2 : ∀ a b, cntL (sortE (bagL J)) a b = cntL (bagL J) a b := fun a b => by
  have hds := distinct_of hsort
  by_cases h0 : cntL (bagL J) a b = 0
  ·rw [h0]
   by_cases h1 : cntL (sortE (bagL J)) a b = 0
   ·exact h1
   ·have hm := (sortE_perm (bagL J)).mem_iff.1 (mem_of_cntL h1)
    have := cntL_of_mem hb.d hm
    simp only at this
    omega
  ·have hm := (sortE_perm (bagL J)).mem_iff.2 (mem_of_cntL h0)
   exact cntL_of_mem hds hm
 refine List.Perm.eq_of_pairwise (le := lexP) (fun a b _ _ h1 h2 => lexP_anti h1 h2) (ends_sorted hsort) ?_ (perm_of_count ?_ ?_ fun a b => ?_)
 ·rw [List.pairwise_map]
  refine hz.s.imp fun {a b} h => ?_
  unfold ltN mnL mxL at h
  unfold lexP nrmP
  simp only
  omega
 ·intro p hp
  obtain ⟨e, he, rfl⟩ := endsL_mem hp
  exact (hr e he).1
 ·intro p hp
  obtain ⟨e, _, rfl⟩ := List.mem_map.1 hp
  unfold nrmP
  simp only; omega
 ·have h1 := cnt_ends hsort hr a b
  rw [hd2, hcnt] at h1
  have h2 : (zs.map fun e => nrmP (J.getD e (0, 0))).countP (isP a b) = J.countP (isP a b) := by
   rw [List.countP_map]
   have e1 : (isP a b ∘ fun e => nrmP (J.getD e (0, 0))) = fun e => isP a b (J.getD e (0, 0)) := by
    funext e
    show isP a b (nrmP _) = _
    unfold isP nrmP
    simp only
    rw [decide_eq_decide]
    omega
   rw [e1, hz.p.countP_eq]
   have e2 : J = (List.range J.length).map fun e => J.getD e (0, 0) := by
    apply List.ext_getElem?
    intro i
    rw [List.getElem?_map]
    by_cases hi : i < J.length
    ·rw [List.getElem?_range hi, Option.map_some, List.getD_eq_getElem?_getD, List.getElem?_eq_getElem hi]; rfl
    ·rw [List.getElem?_eq_none (by omega), List.getElem?_eq_none (by simp; omega)]; rfl
   conv => rhs; rw [e2]
   rw [List.countP_map]; rfl
  omega
theorem nord_ex (J : List (Int × Int)) : ∃ zs, NOrd J zs := by
 by_cases h0 : 0 < J.length
 ·obtain ⟨zs, h, _⟩ := sortN_ord J h0
  exact ⟨zs, h⟩
 ·have e : J.length = 0 := by omega
  exact ⟨[], ⟨by rw [e]; exact List.Perm.refl _, List.Pairwise.nil⟩⟩
end Go.Proofs.YtfkegnhpihoncaaGreat
