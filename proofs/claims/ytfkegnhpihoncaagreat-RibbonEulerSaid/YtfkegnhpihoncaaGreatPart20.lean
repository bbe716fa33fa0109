/- A part of the proof: contracts of functions of the program, and plain lemmas. -/
import Derived.Test.YtfkegnhpihoncaaGreatPart19
import Derived.Test.YtfkegnhpihoncaaGreatLayerC
import Derived.Test.YtfkegnhpihoncaaGreatPart13
import Derived.Test.YtfkegnhpihoncaaGreatPart07
import Derived.Test.YtfkegnhpihoncaaGreatPart04
import Derived.Test.YtfkegnhpihoncaaGreatPart05
import Derived.Test.YtfkegnhpihoncaaGreatPart08
set_option linter.all false
namespace Go.Proofs.YtfkegnhpihoncaaGreat
open Go.Sp
set_option linter.unusedSimpArgs false
set_option linter.unusedVariables false
set_option maxHeartbeats 4000000
set_option maxRecDepth 100000
theorem rDual_ok (r : R) (hs : RSm r) : ACall Tryz.prog 23 [tR r] (.tup [tR (dualD r), tints (dualN r), tint (dualE r)]) := by
  have hC := rchecked_ok r hs
  by_cases he : ribE r = 0
  case neg =>
    have e1 : dualE r = ribE r := by unfold dualE; rw [if_pos he]
    have e2 : dualD r = ⟨0, [], []⟩ := by unfold dualD; rw [if_pos (by rw [e1]; exact he)]
    have e3 : dualN r = [] := by unfold dualN; rw [if_pos (by rw [e1]; exact he)]
    rw [e1, e2, e3]
    rw [if_pos he] at hC
    clear e1 e2 e3
    generalize ribE r = E at *
    obtain ⟨n, es, ar⟩ := r
    refine ACall.of_body Tryz.func23 rfl (by kernel_rfl) ?_
    simp only [entry, Tryz.ntmps23, tR]
    refine zU ?_
    refine zR (zc @he trivial) (zc hC trivial) trivial ?_
    simp [Rets, aret, Blk.cells, ty, Tryz.results23, ares, toT1, toT, borrow, borrow0, capCell, toTree0, tint, tR, tints, eRows, llRows, iRows]
  have hr := rok_of he
  have hF := faces_ok r hs hr
  have hlen : (endsL r.es).length ≤ 2000 := ends_len (g := r.g) hs.es hr.c
  rw [if_neg (by omega), he] at hC
  have hfl := facesI_len r
  by_cases h12 : 12 < (facesR r).length
  · have e1 : dualE r = 5 := by unfold dualE; rw [if_neg (by omega), if_pos h12]
    have e2 : dualD r = ⟨0, [], []⟩ := by unfold dualD; rw [if_pos (by rw [e1]; decide)]
    have e3 : dualN r = [] := by unfold dualN; rw [if_pos (by rw [e1]; decide)]
    rw [e1, e2, e3]
    have h12I : 12 < ((facesI r).length : Int) := by omega
    clear e1 e2 e3
    generalize facesI r = F at *
    generalize tabI (2 * (endsL r.es).length) (ofN (fR (endsL r.es) r.ar) (2 * (endsL r.es).length) (2 * (endsL r.es).length)) = O at *
    generalize endsL r.es = L at *
    clear he hs hr hfl h12
    obtain ⟨n, es, ar⟩ := r
    refine ACall.of_body Tryz.func23 rfl (by kernel_rfl) ?_
    simp only [entry, Tryz.ntmps23, tR]
    refine zU ?_
    refine zR (zc @pRows_len (zc @llRows_len (zc @h12I trivial))) (zc hC (zc hF trivial)) trivial ?_
    simp [Rets, aret, Blk.cells, ty, Tryz.results23, ares, toT1, toT, borrow, borrow0, capCell, toTree0, tint, tR, tints, eRows, llRows, iRows]
  · have e1 : dualE r = (dualM r).2 := by unfold dualE; rw [if_neg (by omega), if_neg h12]
    have hja := jK_all r
    have hMk := Make_ok (facesR r).length (joinsR r) (by rw [joinsR_len]; omega)
    have hW := dual_walk r.n r.es r.ar (endsL r.es) (facesI r) (tabI (2 * (endsL r.es).length) (ofF r)) (dualM r) hC hF (by rw [hja, hfl]; exact hMk) hlen (tabI_len _ _) (fun v hv => by
      obtain ⟨x, _, rfl⟩ := List.mem_map.1 hv
      have := ofN_range (fR (endsL r.es) r.ar) (2 * (endsL r.es).length) (2 * (endsL r.es).length) x
      unfold ofF; omega) (by omega) (fun l hl x hx => facesI_mem hr hl hx) (fun l hl => facesI_short hr hl)
    rw [hja] at hW
    unfold dualD dualN dualAr
    rw [e1]
    exact hW
end Go.Proofs.YtfkegnhpihoncaaGreat
set_option linter.all false
namespace Go.Proofs.YtfkegnhpihoncaaGreat
open Go.Sp
set_option linter.unusedSimpArgs false
set_option linter.unusedVariables false
set_option maxHeartbeats 4000000
set_option maxRecDepth 100000
def triG : G := ⟨3, [⟨0, 1, 1⟩, ⟨0, 2, 1⟩, ⟨1, 2, 1⟩]⟩
def triR : R := ⟨3, [⟨0, 1, 1⟩, ⟨0, 2, 1⟩, ⟨1, 2, 1⟩], [[0, 2], [1, 4], [3, 5]]⟩
def loopR (l : List Int) : R := ⟨1, [⟨0, 0, 2⟩], [l]⟩
theorem tri_joined : joinedE triG = 0 := by kernel_rfl
theorem tri_halves : halvesL (endsL triG.es) triG.n.toNat (2 * (endsL triG.es).length) = [[0, 2], [1, 4], [3, 5]] := by kernel_rfl
theorem tri_rib : ribE triR = 0 := by kernel_rfl
theorem tri_faces : facesI triR = [[0, 4, 3], [1, 2, 5]] := by kernel_rfl
theorem tri_flen : (facesR triR).length = 2 := by kernel_rfl
theorem tri_joins : joinsR triR = [(0, 1), (1, 0), (0, 1)] := by kernel_rfl
theorem tri_num : numI (joinsR triR) = [0, 1, 2] := by kernel_rfl
theorem tri_ar : dualAr triR = [[0, 4, 2], [1, 3, 5]] := by kernel_rfl
theorem tri_bag : bagL [(0, 1), (1, 0), (0, 1)] = [⟨0, 1, 3⟩] := by kernel_rfl
theorem loopA_rib : ribE (loopR [0, 1, 2, 3]) = 0 := by kernel_rfl
theorem loopB_rib : ribE (loopR [0, 2, 1, 3]) = 0 := by kernel_rfl
theorem loopA_faces : facesI (loopR [0, 1, 2, 3]) = [[0, 2], [1], [3]] := by kernel_rfl
theorem loopB_faces : facesI (loopR [0, 2, 1, 3]) = [[0, 3, 1, 2]] := by kernel_rfl
theorem loopA_genus : genusR (loopR [0, 1, 2, 3]) = 0 := by kernel_rfl
theorem loopB_genus : genusR (loopR [0, 2, 1, 3]) = 1 := by kernel_rfl
theorem tri_make : dualM triR = (⟨2, [⟨0, 1, 3⟩]⟩, 0) := by
  unfold dualM
  rw [tri_flen, tri_joins]
  unfold makeE
  rw [if_neg (by decide), if_neg (by decide), if_neg, if_neg, tri_bag]
  · rw [sortE_eq (l := [⟨0, 1, 3⟩]) (List.pairwise_singleton _ _) (List.Perm.refl _)]; rfl
  · rw [tri_bag]
    rintro ⟨e, he, h⟩
    simp at he
    subst he
    simp at h
  · rintro ⟨p, hp, h⟩
    refine h ?_
    simp at hp
    rcases hp with rfl | rfl | rfl <;> decide
theorem tri_dualE : dualE triR = 0 := by
  unfold dualE
  rw [tri_rib, if_neg (by decide), tri_flen, if_neg (by decide), tri_make]
theorem tri_dualD : dualD triR = ⟨2, [⟨0, 1, 3⟩], [[0, 4, 2], [1, 3, 5]]⟩ := by
  unfold dualD
  rw [tri_dualE, if_neg (by decide), tri_make, tri_ar]
theorem tri_dualN : dualN triR = [0, 1, 2] := by
  unfold dualN
  rw [tri_dualE, if_neg (by decide), tri_num]
theorem rsm_tri : RSm triR := ⟨by decide, by decide, by decide⟩
theorem rsm_loop (l : List Int) (h : l.length < 2 ^ 20) : RSm (loopR l) := ⟨by simp [loopR], by simp [loopR], fun x hx => by simp [loopR] at hx; subst hx; exact h⟩
end Go.Proofs.YtfkegnhpihoncaaGreat
set_option linter.all false
namespace Go.Proofs.YtfkegnhpihoncaaGreat
open Go.Sp
set_option linter.unusedSimpArgs false
set_option linter.unusedVariables false
set_option maxHeartbeats 4000000
set_option maxRecDepth 100000
end Go.Proofs.YtfkegnhpihoncaaGreat
set_option linter.all false
namespace Go.Proofs.YtfkegnhpihoncaaGreat
open Go.Sp
set_option linter.unusedSimpArgs false
set_option linter.unusedVariables false
set_option maxHeartbeats 4000000
set_option maxRecDepth 100000
def sameR (a b : R) : Bool := decide (a.n = b.n) && (decide (a.es = b.es) && decide (a.ar = b.ar))
theorem sameR_iff (a b : R) : sameR a b = true ↔ a = b := by
  obtain ⟨n, es, ar⟩ := a
  obtain ⟨n', es', ar'⟩ := b
  simp [sameR]
end Go.Proofs.YtfkegnhpihoncaaGreat
set_option linter.all false
namespace Go.Proofs.YtfkegnhpihoncaaGreat
open Go.Sp
set_option linter.unusedSimpArgs false
set_option linter.unusedVariables false
set_option maxHeartbeats 4000000
set_option maxRecDepth 100000
theorem SameInts_ok (a b : List Int) (ha : a.length < 2 ^ 40) (hb : b.length < 2 ^ 40) : ACall Tryz.prog 53 [tints a, tints b] (tbool (decide (a = b))) := by
  refine ACall.of_body Tryz.func53 rfl (by kernel_rfl) ?_
  simp only [entry, Tryz.ntmps53, tints]
  refine zU ?_
  by_cases hlen : a.length = b.length
  case neg =>
    have hI : ¬ ((a.length : Int) = b.length) := by omega
    rw [decide_eq_false (fun e => hlen (by rw [e]))]
    refine zR (zc @iRows_len (zc @hI trivial)) trivial trivial ?_
    simp [Rets, aret, Blk.cells, ty, Tryz.results53, ares, toT1, toT, borrow, borrow0, capCell, toTree0, tbool]
  have hI : ((a.length : Int) = b.length) := by omega
  refine zR (zc @iRows_len (zc @hI trivial)) trivial trivial ?_
  refine AWp.loopS (α:=Nat) 26 (fun i=>[(0,.c (.slice (iRows a) .none)),(1,.c (.slice (iRows b) .none)),(5,.c (.int .i64 (i : Int)))]) (fun i=>[]) (fun i=>i ≤ b.length ∧ a.take i = b.take i) (fun i=>b.length - i) (0) (hk:=Weak.headL 0 26 [0, 1, 5] zW) (h0:=?_) (round:=fun i hI=>?_)
  · exact ⟨Nat.zero_le _, rfl⟩
  · obtain ⟨hi, hI2⟩ := hI
    by_cases hlt : i < b.length
    · have hltI : (i : Int) < b.length := by omega
      have hia : i < a.length := by omega
      have e0 := List.getElem?_eq_getElem hia
      have f0 := List.getElem?_eq_getElem hlt
      have e1 := iRows_get e0
      have f1 := iRows_get f0
      have t1 : a.take (i + 1) = a.take i ++ [a[i]] := List.take_succ_eq_append_getElem hia
      have t2 : b.take (i + 1) = b.take i ++ [b[i]] := List.take_succ_eq_append_getElem hlt
      generalize a[i] = x at *
      generalize b[i] = y at *
      by_cases hxy : x = y
      · subst hxy
        refine zR (zc @hltI (zc @iRows_len (zc @hI (zc @e1 (zc @f1 trivial))))) trivial trivial ?_
        refine ⟨i + 1,Weak.headN 0 26 [0, 1, 5] zW,?_,?_⟩
        · exact ⟨hlt, by rw [t1, t2, hI2]⟩
        · omega
      · rw [decide_eq_false (fun e => hxy (by subst e; rw [e0] at f0; exact Option.some.inj f0))]
        refine zR (zc @hltI (zc @iRows_len (zc @hI (zc @e1 (zc @f1 (zc @hxy trivial)))))) trivial trivial ?_
        simp [Rets, aret, Blk.cells, ty, Tryz.results53, ares, toT1, toT, borrow, borrow0, capCell, toTree0, tbool]
    · have ei : i = b.length := by omega
      have hab : a = b := by
        rw [List.take_of_length_le (by omega), List.take_of_length_le (by omega)] at hI2
        exact hI2
      rw [decide_eq_true hab]
      have hnl : ¬ ((i : Int) < b.length) := by omega
      refine zR (zc @hnl (zc @iRows_len (zc @hI trivial))) trivial trivial ?_
      simp [Rets, aret, Blk.cells, ty, Tryz.results53, ares, toT1, toT, borrow, borrow0, capCell, toTree0, tbool]
theorem SameLists_ok (a b : List (List Int)) (ha : a.length < 2 ^ 40) (hb : b.length < 2 ^ 40) (hal : ∀ l, l ∈ a → l.length < 2 ^ 40) (hbl : ∀ l, l ∈ b → l.length < 2 ^ 40) :
    ACall Tryz.prog 16 [tlists a, tlists b] (tbool (decide (a = b))) := by
  refine ACall.of_body Tryz.func16 rfl (by kernel_rfl) ?_
  simp only [entry, Tryz.ntmps16, tlists]
  refine zU ?_
  by_cases hlen : a.length = b.length
  case neg =>
    have hI : ¬ ((a.length : Int) = b.length) := by omega
    rw [decide_eq_false (fun e => hlen (by rw [e]))]
    refine zR (zc @llRows_len (zc @hI trivial)) trivial trivial ?_
    simp [Rets, aret, Blk.cells, ty, Tryz.results16, ares, toT1, toT, borrow, borrow0, capCell, toTree0, tbool]
  have hI : ((a.length : Int) = b.length) := by omega
  refine zR (zc @llRows_len (zc @hI trivial)) trivial trivial ?_
  refine AWp.loopS (α:=Nat) 27 (fun i=>[(0,.c (.slice (llRows a) .none)),(1,.c (.slice (llRows b) .none)),(5,.c (.int .i64 (i : Int)))]) (fun i=>[]) (fun i=>i ≤ b.length ∧ a.take i = b.take i) (fun i=>b.length - i) (0) (hk:=Weak.headL 0 27 [0, 1, 5] zW) (h0:=?_) (round:=fun i hI=>?_)
  · exact ⟨Nat.zero_le _, rfl⟩
  · obtain ⟨hi, hI2⟩ := hI
    by_cases hlt : i < b.length
    · have hltI : (i : Int) < b.length := by omega
      have hia : i < a.length := by omega
      have e0 := List.getElem?_eq_getElem hia
      have f0 := List.getElem?_eq_getElem hlt
      have e1 := llRows_get e0
      have f1 := llRows_get f0
      have hE := SameInts_ok a[i] b[i] (hal _ (List.getElem_mem hia)) (hbl _ (List.getElem_mem hlt))
      have t1 : a.take (i + 1) = a.take i ++ [a[i]] := List.take_succ_eq_append_getElem hia
      have t2 : b.take (i + 1) = b.take i ++ [b[i]] := List.take_succ_eq_append_getElem hlt
      generalize a[i] = x at *
      generalize b[i] = y at *
      by_cases hxy : x = y
      · rw [decide_eq_true hxy] at hE
        refine zR (zc @hltI (zc @llRows_len (zc @hI (zc @e1 (zc @f1 trivial))))) (zc hE trivial) trivial ?_
        refine ⟨i + 1,Weak.headN 0 27 [0, 1, 5] zW,?_,?_⟩
        · exact ⟨hlt, by rw [t1, t2, hI2, hxy]⟩
        · omega
      · rw [decide_eq_false hxy] at hE
        rw [decide_eq_false (fun e => hxy (by subst e; rw [e0] at f0; exact Option.some.inj f0))]
        refine zR (zc @hltI (zc @llRows_len (zc @hI (zc @e1 (zc @f1 trivial))))) (zc hE trivial) trivial ?_
        simp [Rets, aret, Blk.cells, ty, Tryz.results16, ares, toT1, toT, borrow, borrow0, capCell, toTree0, tbool]
    · have ei : i = b.length := by omega
      have hab : a = b := by
        rw [List.take_of_length_le (by omega), List.take_of_length_le (by omega)] at hI2
        exact hI2
      rw [decide_eq_true hab]
      have hnl : ¬ ((i : Int) < b.length) := by omega
      refine zR (zc @hnl (zc @llRows_len (zc @hI trivial))) trivial trivial ?_
      simp [Rets, aret, Blk.cells, ty, Tryz.results16, ares, toT1, toT, borrow, borrow0, capCell, toTree0, tbool]
theorem SameRR_ok (a b : R) (ha : RSm a) (hb : RSm b) : ACall Tryz.prog 31 [tR a, tR b] (tbool (sameR a b)) := by
  have hS := Same_ok a.g b.g (by have := ha.es; unfold R.g; simp only; omega) (by have := hb.es; unfold R.g; simp only; omega)
  have hL := SameLists_ok a.ar b.ar (by have := ha.ar; omega) (by have := hb.ar; omega) (fun l hl => by have := ha.l l hl; omega) (fun l hl => by have := hb.l l hl; omega)
  have hd : sameR a b = (decide (a.g.n = b.g.n ∧ a.g.es = b.g.es) && decide (a.ar = b.ar)) := by
    unfold sameR R.g
    rw [Bool.eq_iff_iff]; simp [and_assoc]
  rw [hd]
  clear hd ha hb
  generalize decide (a.g.n = b.g.n ∧ a.g.es = b.g.es) = x at *
  obtain ⟨n, es, ar⟩ := a
  obtain ⟨n', es', ar'⟩ := b
  simp only [R.g] at hS hL ⊢
  generalize decide (ar = ar') = y at *
  refine ACall.of_body Tryz.func31 rfl (by kernel_rfl) ?_
  simp only [entry, Tryz.ntmps31, tR]
  refine zU ?_
  cases x with
  | true =>
    rw [Bool.true_and]
    refine zR trivial (zc hS (zc hL trivial)) trivial ?_
    simp [Rets, aret, Blk.cells, ty, Tryz.results31, ares, toT1, toT, borrow, borrow0, capCell, toTree0, tbool]
  | false =>
    rw [Bool.false_and]
    refine zR trivial (zc hS (zc hL trivial)) trivial ?_
    simp [Rets, aret, Blk.cells, ty, Tryz.results31, ares, toT1, toT, borrow, borrow0, capCell, toTree0, tbool]
end Go.Proofs.YtfkegnhpihoncaaGreat
set_option linter.all false
namespace Go.Proofs.YtfkegnhpihoncaaGreat
open Go.Sp
set_option linter.unusedSimpArgs false
set_option linter.unusedVariables false
set_option maxHeartbeats 4000000
set_option maxRecDepth 100000
theorem Triangle_ok : ACall Tryz.prog 47 [] (tG triG) := by
  refine ACall.of_body Tryz.func47 rfl (by kernel_rfl) ?_
  simp only [entry, Tryz.ntmps47]
  refine zU ?_
  refine zRc trivial trivial trivial ?_
  simp [Rets, aret, Blk.cells, ty, Tryz.results47, ares, toT1, toT, borrow, borrow0, capCell, toTree0, tG, eRows, eRow, triG]
theorem Loops_ok (l : List Int) : ACall Tryz.prog 48 [tints l] (tR (loopR l)) := by
  refine ACall.of_body Tryz.func48 rfl (by kernel_rfl) ?_
  simp only [entry, Tryz.ntmps48, tints]
  refine zU ?_
  refine zRc trivial trivial trivial ?_
  simp [Rets, aret, Blk.cells, ty, Tryz.results48, ares, toT1, toT, borrow, borrow0, capCell, toTree0, tR, eRows, eRow, llRows, loopR]
theorem awake44_ok : ACall Tryz.prog 12 [] (tbool true) := by
  have hT := Triangle_ok
  have hD0 := rDefault_ok triG (by decide)
  rw [if_neg (by rw [tri_joined]; decide), tri_joined, tri_halves] at hD0
  have hD : ACall Tryz.prog 28 [tG triG] (.tup [tR triR, tint 0]) := hD0
  have hF := rFaces_ok triR rsm_tri
  rw [if_neg (by rw [tri_rib]; decide), tri_rib, tri_faces] at hF
  have hU := rDual_ok triR rsm_tri
  rw [tri_dualD, tri_dualN, tri_dualE] at hU
  have s1 := SameLists_ok [[0, 2], [1, 4], [3, 5]] [[0, 2], [1, 4], [3, 5]] (by decide) (by decide) (by decide) (by decide)
  have s2 := SameLists_ok [[0, 4, 3], [1, 2, 5]] [[0, 4, 3], [1, 2, 5]] (by decide) (by decide) (by decide) (by decide)
  have s3 := SameRR_ok ⟨2, [⟨0, 1, 3⟩], [[0, 4, 2], [1, 3, 5]]⟩ ⟨2, [⟨0, 1, 3⟩], [[0, 4, 2], [1, 3, 5]]⟩ ⟨by decide, by decide, by decide⟩ ⟨by decide, by decide, by decide⟩
  rw [(sameR_iff _ _).2 rfl] at s3
  have s4 := Equal_ok [0, 1, 2] [0, 1, 2] (by decide) (by decide)
  have l1 := Loops_ok [0, 1, 2, 3]
  have l2 := Loops_ok [0, 2, 1, 3]
  have f1 := rFaces_ok (loopR [0, 1, 2, 3]) (rsm_loop _ (by decide))
  rw [if_neg (by rw [loopA_rib]; decide), loopA_rib, loopA_faces] at f1
  have f2 := rFaces_ok (loopR [0, 2, 1, 3]) (rsm_loop _ (by decide))
  rw [if_neg (by rw [loopB_rib]; decide), loopB_rib, loopB_faces] at f2
  have g1 := rGenus_ok (loopR [0, 1, 2, 3]) (rsm_loop _ (by decide))
  rw [if_neg (by rw [loopA_rib]; decide), loopA_rib, loopA_genus] at g1
  have g2 := rGenus_ok (loopR [0, 2, 1, 3]) (rsm_loop _ (by decide))
  rw [if_neg (by rw [loopB_rib]; decide), loopB_rib, loopB_genus] at g2
  have s5 := SameLists_ok [[0, 2], [1], [3]] [[0, 2], [1], [3]] (by decide) (by decide) (by decide) (by decide)
  have s6 := SameLists_ok [[0, 3, 1, 2]] [[0, 3, 1, 2]] (by decide) (by decide) (by decide) (by decide)
  rw [decide_eq_true rfl] at s1 s2 s4 s5 s6
  unfold tR triR at hD hF hU
  unfold tR at s3
  unfold tR loopR at l1 l2 f1 f2 g1 g2
  unfold tlists at hF s1 s2 s5 s6 f1 f2
  simp only at hD hF hU s3 l1 l2 f1 f2 g1 g2
  refine ACall.of_body Tryz.func12 rfl (by kernel_rfl) ?_
  simp only [entry, Tryz.ntmps12]
  refine zU ?_
  repeat' (first|((first|(refine zT ?_;intro K' hK')|(refine zG ?_ ?_<;>(try refine zH ?_)<;>intro hguard<;>(try exact zX)<;>try intro K' hK'))<;>((try simp +contextual only [go_sem, chunks, List.range, List.range.loop]);(repeat' first|(with_reducible refine hK' _ _ ?_;clear hK' K')|((with_reducible first|refine zK hT ?_|refine zK hD ?_|refine zK hF ?_|refine zK hU ?_|refine zK s1 ?_|refine zK s2 ?_|refine zK s3 ?_|refine zK s4 ?_|refine zK l1 ?_|refine zK l2 ?_|refine zK f1 ?_|refine zK f2 ?_|refine zK g1 ?_|refine zK g2 ?_|refine zK s5 ?_|refine zK s6 ?_);try simp +contextual only [go_sem, chunks, List.range, List.range.loop])|exact zY|with_reducible refine And.intro ?_ ?_|(with_reducible intro hpath;try exact zP)|(refine hK' _ _ ?_;clear hK' K')|fail);try refine zS ?_))|(refine zE ?_;refine hK _ _ ?_;clear hK K)|(refine zN ?_;try refine zS ?_)|refine zA ?_|(refine zB ?_;intro K hK)|(refine zC ?_ ?_<;>(try refine zH ?_)<;>intro hcond<;>try exact zX)|fail)
  simp [Rets, aret, Blk.cells, ty, Tryz.results12, ares, toT1, toT, borrow, borrow0, capCell, toTree0, tbool]
end Go.Proofs.YtfkegnhpihoncaaGreat
set_option linter.all false
namespace Go.Proofs.YtfkegnhpihoncaaGreat
open Go.Sp
set_option linter.unusedSimpArgs false
set_option linter.unusedVariables false
set_option maxHeartbeats 4000000
set_option maxRecDepth 100000
def ltP (x : E) (a b : Int) : Prop := x.a < a ∨ (x.a = a ∧ x.b < b)
instance ltP.dec (x : E) (a b : Int) : Decidable (ltP x a b) := by unfold ltP; infer_instance
def loE : List E → Int → Int → Nat
  | [], _, _ => 0
  | x :: xs, a, b => if ltP x a b then loE xs a b + 1 else 0
def foundB (es : List E) (a b : Int) : Bool := match es[loE es a b]? with | some x => decide (x.a = a ∧ x.b = b) | none => false
end Go.Proofs.YtfkegnhpihoncaaGreat
set_option linter.all false
namespace Go.Proofs.YtfkegnhpihoncaaGreat
open Go.Sp
set_option linter.unusedSimpArgs false
set_option linter.unusedVariables false
set_option maxHeartbeats 4000000
set_option maxRecDepth 100000
def valR (es : List E) (v : Int) (n : Nat) : Int := sumR (fun u => if (u : Int) = v then 0 else cntL es (min (u : Int) v) (max (u : Int) v)) n
theorem cnt_bound {g : G} (hc : checkG g = 0) (a b : Int) : 0 ≤ cntL g.es a b ∧ cntL g.es a b ≤ 50 := by
  have hmul := (checkG_zero.1 hc).2.1
  exact ⟨cntL_ge fun e he => by have := hmul e he; unfold okE at this; omega, cntL_le (fun e he => by have := hmul e he; unfold okE at this; omega) (by omega)⟩
theorem valR_val {g : G} {n : Nat} (hc : checkG g = 0) (hn : g.n = n) {v : Int} (hv : 0 ≤ v ∧ v < n) : valR g.es v n = valL v g.es := by
  have h1 := (handshake hc hn).2.2 v
  have h2 : sumR (fun u => cntL g.es (min v u) (max v u)) n = valR g.es v n + sumR (fun u => if (u : Int) = v then cntL g.es v v else 0) n := by
    unfold valR
    rw [← sumR_add]
    refine sumR_congr fun i _ => ?_
    by_cases e : (i : Int) = v
    · rw [if_pos e, if_pos e, e, Int.min_self, Int.max_self]; omega
    · rw [if_neg e, if_neg e, Int.min_comm, Int.max_comm]; omega
  rw [sumR_one hv.1 hv.2] at h2
  omega
theorem ValenceR_ok (g : G) (n : Nat) (hc : checkG g = 0) (hn : g.n = n) (hl : g.es.length < 2 ^ 30) (v : Int) : ACall Tryz.prog 135 [tG g, tint v] (tint (valR g.es v n)) := by
  have hn12 := (checkG_zero.1 hc).1
  have hVb : ∀ u, u ≤ n → 0 ≤ valR g.es v u ∧ valR g.es v u ≤ 600 := fun u hu => by
    have := sumR_bound (f := fun u => if (u : Int) = v then 0 else cntL g.es (min (u : Int) v) (max (u : Int) v)) (n := u) (k := 50) (fun i _ => by have := cnt_bound hc (min (i : Int) v) (max (i : Int) v); (try simp only); split <;> omega)
    unfold valR; omega
  refine ACall.of_body Tryz.func135 rfl (by kernel_rfl) ?_
  simp only [entry, Tryz.ntmps135, tG, tint]
  refine zU ?_
  refine zR trivial trivial trivial ?_
  refine AWp.loopS (α:=Nat) 23 (fun u=>[(1,.c (.int .i64 v)),(2,.c (.ptr 0 0)),(5,.c (.int .i64 (valR g.es v u))),(6,.c (.int .i64 (u : Int)))]) (fun u=>[.box [.int .i64 g.n, .slice (eRows g.es) .none]]) (fun u=>u ≤ n) (fun u=>n - u) (0) (hk:=Weak.headL 1 23 [1, 2, 5, 6] zW) (h0:=?_) (round:=fun u hI=>?_)
  · exact Nat.zero_le _
  · have hun : u ≤ n := hI
    clear hI
    by_cases hlt : u < n
    · have hltI : (u : Int) < g.n := by omega
      have hb := BetweenR_ok g u v (by omega)
      have hcb := cnt_bound hc (min (u : Int) v) (max (u : Int) v)
      have hV := hVb u hun
      have hV1 : valR g.es v (u + 1) = valR g.es v u + (if (u : Int) = v then 0 else cntL g.es (min (u : Int) v) (max (u : Int) v)) := rfl
      generalize valR g.es v u = S at *
      generalize cntL g.es (min (u : Int) v) (max (u : Int) v) = k at *
      repeat' (first|((first|(refine zT ?_;intro K' hK')|(refine zG ?_ ?_<;>(try refine zH ?_)<;>intro hguard<;>(try exact zX)<;>try intro K' hK'))<;>((try simp +contextual only [go_sem, hltI]);(repeat' first|(with_reducible refine hK' _ _ ?_;clear hK' K')|(with_reducible refine zK hb ?_;try simp +contextual only [go_sem, hltI])|exact zY|with_reducible refine And.intro ?_ ?_|(with_reducible intro hpath;try exact zP)|(refine hK' _ _ ?_;clear hK' K')|fail);try refine zS ?_))|(refine zE ?_;refine hK _ _ ?_;clear hK K)|(refine zN ?_;try refine zS ?_)|refine zA ?_|(refine zB ?_;intro K hK)|(refine zC ?_ ?_<;>(try refine zH ?_)<;>intro hcond<;>try exact zX)|fail)
      · rw [if_neg (by assumption)] at hV1
        refine ⟨u + 1,Weak.headF 1 23 [1, 2, 5, 6] (zc @hV1 trivial) zW,?_,?_⟩
        · exact hlt
        · omega
      · rw [if_pos (by assumption), Int.add_zero] at hV1
        refine ⟨u + 1,Weak.headF 1 23 [1, 2, 5, 6] (zc @hV1 trivial) zW,?_,?_⟩
        · exact hlt
        · omega
    · have eu : u = n := by omega
      subst eu
      have hnl : ¬ ((u : Int) < g.n) := by omega
      refine zR (zc @hnl trivial) trivial trivial ?_
      simp [Rets, aret, Blk.cells, ty, Tryz.results135, ares, toT1, toT, borrow, borrow0, capCell, toTree0, tint]
theorem DegreeR_ok (g : G) (n : Nat) (hc : checkG g = 0) (hn : g.n = n) (hl : g.es.length < 2 ^ 30) (v : Int) : ACall Tryz.prog 94 [tG g, tint v] (tint (valR g.es v n + 2 * cntL g.es v v)) := by
  have hn12 := (checkG_zero.1 hc).1
  have hVb : 0 ≤ valR g.es v n ∧ valR g.es v n ≤ 600 := by
    have := sumR_bound (f := fun u => if (u : Int) = v then 0 else cntL g.es (min (u : Int) v) (max (u : Int) v)) (n := n) (k := 50) (fun i _ => by have := cnt_bound hc (min (i : Int) v) (max (i : Int) v); (try simp only); split <;> omega)
    unfold valR; omega
  have hb := BetweenR_ok g v v (by omega)
  rw [Int.min_self, Int.max_self] at hb
  have hcb := cnt_bound hc v v
  have hv := ValenceR_ok g n hc hn hl v
  refine ACall.of_body Tryz.func94 rfl (by kernel_rfl) ?_
  simp only [entry, Tryz.ntmps94, tG, tint]
  refine zU ?_
  generalize valR g.es v n = S at *
  generalize cntL g.es v v = k at *
  refine zR trivial (zc hv (zc hb trivial)) trivial ?_
  simp [Rets, aret, Blk.cells, ty, Tryz.results94, ares, toT1, toT, borrow, borrow0, capCell, toTree0, tint]
def neiP (es : List E) (v : Int) (u : Int) : Bool := !decide (u = v) && decide (0 < cntL es (min u v) (max u v))
def neiR (es : List E) (v : Int) (n : Nat) : List Int := inL (neiP es v) n
end Go.Proofs.YtfkegnhpihoncaaGreat
set_option linter.all false
namespace Go.Proofs.YtfkegnhpihoncaaGreat
open Go.Sp
set_option linter.unusedSimpArgs false
set_option linter.unusedVariables false
set_option maxHeartbeats 4000000
set_option maxRecDepth 100000
theorem atL_app {L : List (Int × Int)} {p : Int × Int} {h : Nat} (hh : h < 2 * L.length) : atL (L ++ [p]) h = atL L h := by
  unfold atL
  rw [List.getD_eq_getElem?_getD, List.getD_eq_getElem?_getD, List.getElem?_append_left (by omega)]
theorem ownL_app {L : List (Int × Int)} {p : Int × Int} {v : Int} : ∀ {k : Nat}, k ≤ 2 * L.length → ownL (L ++ [p]) v k = ownL L v k
  | 0, _ => rfl
  | k + 1, h => by rw [ownL_succ, ownL_succ, atL_app (by omega), ownL_app (by omega)]
theorem own_deg (L : List (Int × Int)) (v : Int) : ((ownL L v (2 * L.length)).length : Int) = degL v L := by
  refine snoc_ind (P := fun L => ((ownL L v (2 * L.length)).length : Int) = degL v L) rfl ?_ L
  intro L p ih
  rw [List.length_append, List.length_singleton, show 2 * (L.length + 1) = 2 * L.length + 1 + 1 by omega, ownL_succ, ownL_succ, ownL_app (Nat.le_refl _), degL_snoc]
  have a1 : atL (L ++ [p]) (2 * L.length) = p.1 := by
    unfold atL
    rw [if_pos (by omega), show 2 * L.length / 2 = L.length by omega, List.getD_eq_getElem?_getD]; simp
  have a2 : atL (L ++ [p]) (2 * L.length + 1) = p.2 := by
    unfold atL
    rw [if_neg (by omega), show (2 * L.length + 1) / 2 = L.length by omega, List.getD_eq_getElem?_getD]; simp
  rw [a1, a2]
  unfold b2i
  by_cases h1 : p.1 = v <;> by_cases h2 : p.2 = v <;> simp [h1, h2] <;> omega
theorem own_degR {g : G} {n : Nat} (hc : checkG g = 0) (hn : g.n = n) {v : Int} (hv : 0 ≤ v ∧ v < n) : valR g.es v n + 2 * cntL g.es v v = (ownL (endsL g.es) v (2 * (endsL g.es).length)).length := by
  obtain ⟨h1, h2, h3⟩ := checkG_zero.1 hc
  rw [own_deg, valR_val hc hn hv]
  exact (degL_val (distinct_of h3) (fun x hx => by have := h2 x hx; unfold okE at this; omega) v).symm
theorem hd_iff {l own : List Int} (h : lstGo own [] l = 0) (hlen : l.length = own.length) (hs : own.Pairwise (· < ·)) : (l ≠ [] ∧ l.getD 0 0 ≠ own.getD 0 0) ↔ ∃ x, x ∈ l ∧ x < l.getD 0 0 := by
  obtain ⟨q1, q2, _⟩ := lstGo_zero h
  have q3 := sup_of q2 q1 hlen
  rw [List.pairwise_iff_getElem] at hs
  have hmin : ∀ x, x ∈ own → own.getD 0 0 ≤ x := fun x hx => by
    obtain ⟨k, hk, rfl⟩ := List.mem_iff_getElem.1 hx
    rw [List.getD_eq_getElem?_getD, List.getElem?_eq_getElem (by omega), Option.getD_some]
    by_cases e : k = 0
    · subst e; exact Int.le_refl _
    · have := hs 0 k (by omega) hk (by omega); omega
  constructor
  · rintro ⟨h1, h2⟩
    have hp : 0 < l.length := List.length_pos_iff.2 h1
    have e1 : l.getD 0 0 = l[0] := by rw [List.getD_eq_getElem?_getD, List.getElem?_eq_getElem hp]; rfl
    have e2 : own.getD 0 0 = own[0]'(by omega) := by rw [List.getD_eq_getElem?_getD, List.getElem?_eq_getElem (by omega)]; rfl
    have h3 := hmin (l.getD 0 0) (q1 _ (by rw [e1]; exact List.getElem_mem _))
    exact ⟨own.getD 0 0, q3 _ (by rw [e2]; exact List.getElem_mem _), by omega⟩
  · intro h
    obtain ⟨x, hx, hlt⟩ := h
    refine ⟨fun e => ?_, fun e => ?_⟩
    · rw [e] at hx; exact absurd hx (List.not_mem_nil)
    · have := hmin x (q1 x hx)
      omega
end Go.Proofs.YtfkegnhpihoncaaGreat
