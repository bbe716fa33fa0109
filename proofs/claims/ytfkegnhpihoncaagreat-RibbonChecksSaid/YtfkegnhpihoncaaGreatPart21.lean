/- A part of the proof: contracts of functions of the program, and plain lemmas. -/
import Derived.Test.YtfkegnhpihoncaaGreatPart20
import Derived.Test.YtfkegnhpihoncaaGreatLayerC
import Derived.Test.YtfkegnhpihoncaaGreatPart16
import Derived.Test.YtfkegnhpihoncaaGreatPart17
import Derived.Test.YtfkegnhpihoncaaGreatPart19
set_option linter.all false
namespace Go.Proofs.YtfkegnhpihoncaaGreat
open Go.Sp
set_option linter.unusedSimpArgs false
set_option linter.unusedVariables false
set_option maxHeartbeats 4000000
set_option maxRecDepth 100000
def sameR (a b : R) : Bool := decide (a.n = b.n) && (decide (a.es = b.es) && decide (a.ar = b.ar))
theorem sameR_iff (a b : R) : sameR a b = true ↔ a = b := by
  obtain ⟨n, es, ar⟩ := a
  obtain ⟨n', es', ar'⟩ := b
  simp [sameR]
end Go.Proofs.YtfkegnhpihoncaaGreat
set_option linter.all false
namespace Go.Proofs.YtfkegnhpihoncaaGreat
open Go.Sp
set_option linter.unusedSimpArgs false
set_option linter.unusedVariables false
set_option maxHeartbeats 4000000
set_option maxRecDepth 100000
theorem SameInts_ok (a b : List Int) (ha : a.length < 2 ^ 40) (hb : b.length < 2 ^ 40) : ACall Tryz.prog 53 [tints a, tints b] (tbool (decide (a = b))) := by
  refine ACall.of_body Tryz.func53 rfl (by kernel_rfl) ?_
  simp only [entry, Tryz.ntmps53, tints]
  refine zU ?_
  by_cases hlen : a.length = b.length
  case neg =>
    have hI : ¬ ((a.length : Int) = b.length) := by omega
    rw [decide_eq_false (fun e => hlen (by rw [e]))]
    refine zR (zc @iRows_len (zc @hI trivial)) trivial trivial ?_
    simp [Rets, aret, Blk.cells, ty, Tryz.results53, ares, toT1, toT, borrow, borrow0, capCell, toTree0, tbool]
  have hI : ((a.length : Int) = b.length) := by omega
  refine zR (zc @iRows_len (zc @hI trivial)) trivial trivial ?_
  refine AWp.loopS (α:=Nat) 26 (fun i=>[(0,.c (.slice (iRows a) .none)),(1,.c (.slice (iRows b) .none)),(5,.c (.int .i64 (i : Int)))]) (fun i=>[]) (fun i=>i ≤ b.length ∧ a.take i = b.take i) (fun i=>b.length - i) (0) (hk:=Weak.headL 0 26 [0, 1, 5] zW) (h0:=?_) (round:=fun i hI=>?_)
  · exact ⟨Nat.zero_le _, rfl⟩
  · obtain ⟨hi, hI2⟩ := hI
    by_cases hlt : i < b.length
    · have hltI : (i : Int) < b.length := by omega
      have hia : i < a.length := by omega
      have e0 := List.getElem?_eq_getElem hia
      have f0 := List.getElem?_eq_getElem hlt
      have e1 := iRows_get e0
      have f1 := iRows_get f0
      have t1 : a.take (i + 1) = a.take i ++ [a[i]] := List.take_succ_eq_append_getElem hia
      have t2 : b.take (i + 1) = b.take i ++ [b[i]] := List.take_succ_eq_append_getElem hlt
      generalize a[i] = x at *
      generalize b[i] = y at *
      by_cases hxy : x = y
      · subst hxy
        refine zR (zc @hltI (zc @iRows_len (zc @hI (zc @e1 (zc @f1 trivial))))) trivial trivial ?_
        refine ⟨i + 1,Weak.headN 0 26 [0, 1, 5] zW,?_,?_⟩
        · exact ⟨hlt, by rw [t1, t2, hI2]⟩
        · omega
      · rw [decide_eq_false (fun e => hxy (by subst e; rw [e0] at f0; exact Option.some.inj f0))]
        refine zR (zc @hltI (zc @iRows_len (zc @hI (zc @e1 (zc @f1 (zc @hxy trivial)))))) trivial trivial ?_
        simp [Rets, aret, Blk.cells, ty, Tryz.results53, ares, toT1, toT, borrow, borrow0, capCell, toTree0, tbool]
    · have ei : i = b.length := by omega
      have hab : a = b := by
        rw [List.take_of_length_le (by omega), List.take_of_length_le (by omega)] at hI2
        exact hI2
      rw [decide_eq_true hab]
      have hnl : ¬ ((i : Int) < b.length) := by omega
      refine zR (zc @hnl (zc @iRows_len (zc @hI trivial))) trivial trivial ?_
      simp [Rets, aret, Blk.cells, ty, Tryz.results53, ares, toT1, toT, borrow, borrow0, capCell, toTree0, tbool]
theorem SameLists_ok (a b : List (List Int)) (ha : a.length < 2 ^ 40) (hb : b.length < 2 ^ 40) (hal : ∀ l, l ∈ a → l.length < 2 ^ 40) (hbl : ∀ l, l ∈ b → l.length < 2 ^ 40) :
    ACall Tryz.prog 16 [tlists a, tlists b] (tbool (decide (a = b))) := by
  refine ACall.of_body Tryz.func16 rfl (by kernel_rfl) ?_
  simp only [entry, Tryz.ntmps16, tlists]
  refine zU ?_
  by_cases hlen : a.length = b.length
  case neg =>
    have hI : ¬ ((a.length : Int) = b.length) := by omega
    rw [decide_eq_false (fun e => hlen (by rw [e]))]
    refine zR (zc @llRows_len (zc @hI trivial)) trivial trivial ?_
    simp [Rets, aret, Blk.cells, ty, Tryz.results16, ares, toT1, toT, borrow, borrow0, capCell, toTree0, tbool]
  have hI : ((a.length : Int) = b.length) := by omega
  refine zR (zc @llRows_len (zc @hI trivial)) trivial trivial ?_
  refine AWp.loopS (α:=Nat) 27 (fun i=>[(0,.c (.slice (llRows a) .none)),(1,.c (.slice (llRows b) .none)),(5,.c (.int .i64 (i : Int)))]) (fun i=>[]) (fun i=>i ≤ b.length ∧ a.take i = b.take i) (fun i=>b.length - i) (0) (hk:=Weak.headL 0 27 [0, 1, 5] zW) (h0:=?_) (round:=fun i hI=>?_)
  · exact ⟨Nat.zero_le _, rfl⟩
  · obtain ⟨hi, hI2⟩ := hI
    by_cases hlt : i < b.length
    · have hltI : (i : Int) < b.length := by omega
      have hia : i < a.length := by omega
      have e0 := List.getElem?_eq_getElem hia
      have f0 := List.getElem?_eq_getElem hlt
      have e1 := llRows_get e0
      have f1 := llRows_get f0
      have hE := SameInts_ok a[i] b[i] (hal _ (List.getElem_mem hia)) (hbl _ (List.getElem_mem hlt))
      have t1 : a.take (i + 1) = a.take i ++ [a[i]] := List.take_succ_eq_append_getElem hia
      have t2 : b.take (i + 1) = b.take i ++ [b[i]] := List.take_succ_eq_append_getElem hlt
      generalize a[i] = x at *
      generalize b[i] = y at *
      by_cases hxy : x = y
      · rw [decide_eq_true hxy] at hE
        refine zR (zc @hltI (zc @llRows_len (zc @hI (zc @e1 (zc @f1 trivial))))) (zc hE trivial) trivial ?_
        refine ⟨i + 1,Weak.headN 0 27 [0, 1, 5] zW,?_,?_⟩
        · exact ⟨hlt, by rw [t1, t2, hI2, hxy]⟩
        · omega
      · rw [decide_eq_false hxy] at hE
        rw [decide_eq_false (fun e => hxy (by subst e; rw [e0] at f0; exact Option.some.inj f0))]
        refine zR (zc @hltI (zc @llRows_len (zc @hI (zc @e1 (zc @f1 trivial))))) (zc hE trivial) trivial ?_
        simp [Rets, aret, Blk.cells, ty, Tryz.results16, ares, toT1, toT, borrow, borrow0, capCell, toTree0, tbool]
    · have ei : i = b.length := by omega
      have hab : a = b := by
        rw [List.take_of_length_le (by omega), List.take_of_length_le (by omega)] at hI2
        exact hI2
      rw [decide_eq_true hab]
      have hnl : ¬ ((i : Int) < b.length) := by omega
      refine zR (zc @hnl (zc @llRows_len (zc @hI trivial))) trivial trivial ?_
      simp [Rets, aret, Blk.cells, ty, Tryz.results16, ares, toT1, toT, borrow, borrow0, capCell, toTree0, tbool]
theorem SameRR_ok (a b : R) (ha : RSm a) (hb : RSm b) : ACall Tryz.prog 31 [tR a, tR b] (tbool (sameR a b)) := by
  have hS := Same_ok a.g b.g (by have := ha.es; unfold R.g; simp only; omega) (by have := hb.es; unfold R.g; simp only; omega)
  have hL := SameLists_ok a.ar b.ar (by have := ha.ar; omega) (by have := hb.ar; omega) (fun l hl => by have := ha.l l hl; omega) (fun l hl => by have := hb.l l hl; omega)
  have hd : sameR a b = (decide (a.g.n = b.g.n ∧ a.g.es = b.g.es) && decide (a.ar = b.ar)) := by
    unfold sameR R.g
    rw [Bool.eq_iff_iff]; simp [and_assoc]
  rw [hd]
  clear hd ha hb
  generalize decide (a.g.n = b.g.n ∧ a.g.es = b.g.es) = x at *
  obtain ⟨n, es, ar⟩ := a
  obtain ⟨n', es', ar'⟩ := b
  simp only [R.g] at hS hL ⊢
  generalize decide (ar = ar') = y at *
  refine ACall.of_body Tryz.func31 rfl (by kernel_rfl) ?_
  simp only [entry, Tryz.ntmps31, tR]
  refine zU ?_
  cases x with
  | true =>
    rw [Bool.true_and]
    refine zR trivial (zc hS (zc hL trivial)) trivial ?_
    simp [Rets, aret, Blk.cells, ty, Tryz.results31, ares, toT1, toT, borrow, borrow0, capCell, toTree0, tbool]
  | false =>
    rw [Bool.false_and]
    refine zR trivial (zc hS (zc hL trivial)) trivial ?_
    simp [Rets, aret, Blk.cells, ty, Tryz.results31, ares, toT1, toT, borrow, borrow0, capCell, toTree0, tbool]
end Go.Proofs.YtfkegnhpihoncaaGreat
set_option linter.all false
namespace Go.Proofs.YtfkegnhpihoncaaGreat
open Go.Sp
set_option linter.unusedSimpArgs false
set_option linter.unusedVariables false
set_option maxHeartbeats 4000000
set_option maxRecDepth 100000
theorem Triangle_ok : ACall Tryz.prog 47 [] (tG triG) := by
  refine ACall.of_body Tryz.func47 rfl (by kernel_rfl) ?_
  simp only [entry, Tryz.ntmps47]
  refine zU ?_
  refine zRc trivial trivial trivial ?_
  simp [Rets, aret, Blk.cells, ty, Tryz.results47, ares, toT1, toT, borrow, borrow0, capCell, toTree0, tG, eRows, eRow, triG]
theorem Loops_ok (l : List Int) : ACall Tryz.prog 48 [tints l] (tR (loopR l)) := by
  refine ACall.of_body Tryz.func48 rfl (by kernel_rfl) ?_
  simp only [entry, Tryz.ntmps48, tints]
  refine zU ?_
  refine zRc trivial trivial trivial ?_
  simp [Rets, aret, Blk.cells, ty, Tryz.results48, ares, toT1, toT, borrow, borrow0, capCell, toTree0, tR, eRows, eRow, llRows, loopR]
theorem awake44_ok : ACall Tryz.prog 12 [] (tbool true) := by
  have hT := Triangle_ok
  have hD0 := rDefault_ok triG (by decide)
  rw [if_neg (by rw [tri_joined]; decide), tri_joined, tri_halves] at hD0
  have hD : ACall Tryz.prog 28 [tG triG] (.tup [tR triR, tint 0]) := hD0
  have hF := rFaces_ok triR rsm_tri
  rw [if_neg (by rw [tri_rib]; decide), tri_rib, tri_faces] at hF
  have hU := rDual_ok triR rsm_tri
  rw [tri_dualD, tri_dualN, tri_dualE] at hU
  have s1 := SameLists_ok [[0, 2], [1, 4], [3, 5]] [[0, 2], [1, 4], [3, 5]] (by decide) (by decide) (by decide) (by decide)
  have s2 := SameLists_ok [[0, 4, 3], [1, 2, 5]] [[0, 4, 3], [1, 2, 5]] (by decide) (by decide) (by decide) (by decide)
  have s3 := SameRR_ok ⟨2, [⟨0, 1, 3⟩], [[0, 4, 2], [1, 3, 5]]⟩ ⟨2, [⟨0, 1, 3⟩], [[0, 4, 2], [1, 3, 5]]⟩ ⟨by decide, by decide, by decide⟩ ⟨by decide, by decide, by decide⟩
  rw [(sameR_iff _ _).2 rfl] at s3
  have s4 := Equal_ok [0, 1, 2] [0, 1, 2] (by decide) (by decide)
  have l1 := Loops_ok [0, 1, 2, 3]
  have l2 := Loops_ok [0, 2, 1, 3]
  have f1 := rFaces_ok (loopR [0, 1, 2, 3]) (rsm_loop _ (by decide))
  rw [if_neg (by rw [loopA_rib]; decide), loopA_rib, loopA_faces] at f1
  have f2 := rFaces_ok (loopR [0, 2, 1, 3]) (rsm_loop _ (by decide))
  rw [if_neg (by rw [loopB_rib]; decide), loopB_rib, loopB_faces] at f2
  have g1 := rGenus_ok (loopR [0, 1, 2, 3]) (rsm_loop _ (by decide))
  rw [if_neg (by rw [loopA_rib]; decide), loopA_rib, loopA_genus] at g1
  have g2 := rGenus_ok (loopR [0, 2, 1, 3]) (rsm_loop _ (by decide))
  rw [if_neg (by rw [loopB_rib]; decide), loopB_rib, loopB_genus] at g2
  have s5 := SameLists_ok [[0, 2], [1], [3]] [[0, 2], [1], [3]] (by decide) (by decide) (by decide) (by decide)
  have s6 := SameLists_ok [[0, 3, 1, 2]] [[0, 3, 1, 2]] (by decide) (by decide) (by decide) (by decide)
  rw [decide_eq_true rfl] at s1 s2 s4 s5 s6
  unfold tR triR at hD hF hU
  unfold tR at s3
  unfold tR loopR at l1 l2 f1 f2 g1 g2
  unfold tlists at hF s1 s2 s5 s6 f1 f2
  simp only at hD hF hU s3 l1 l2 f1 f2 g1 g2
  refine ACall.of_body Tryz.func12 rfl (by kernel_rfl) ?_
  simp only [entry, Tryz.ntmps12]
  refine zU ?_
  repeat' (first|((first|(refine zT ?_;intro K' hK')|(refine zG ?_ ?_<;>(try refine zH ?_)<;>intro hguard<;>(try exact zX)<;>try intro K' hK'))<;>((try simp +contextual only [go_sem, chunks, List.range, List.range.loop]);(repeat' first|(with_reducible refine hK' _ _ ?_;clear hK' K')|((with_reducible first|refine zK hT ?_|refine zK hD ?_|refine zK hF ?_|refine zK hU ?_|refine zK s1 ?_|refine zK s2 ?_|refine zK s3 ?_|refine zK s4 ?_|refine zK l1 ?_|refine zK l2 ?_|refine zK f1 ?_|refine zK f2 ?_|refine zK g1 ?_|refine zK g2 ?_|refine zK s5 ?_|refine zK s6 ?_);try simp +contextual only [go_sem, chunks, List.range, List.range.loop])|exact zY|with_reducible refine And.intro ?_ ?_|(with_reducible intro hpath;try exact zP)|(refine hK' _ _ ?_;clear hK' K')|fail);try refine zS ?_))|(refine zE ?_;refine hK _ _ ?_;clear hK K)|(refine zN ?_;try refine zS ?_)|refine zA ?_|(refine zB ?_;intro K hK)|(refine zC ?_ ?_<;>(try refine zH ?_)<;>intro hcond<;>try exact zX)|fail)
  simp [Rets, aret, Blk.cells, ty, Tryz.results12, ares, toT1, toT, borrow, borrow0, capCell, toTree0, tbool]
end Go.Proofs.YtfkegnhpihoncaaGreat
set_option linter.all false
namespace Go.Proofs.YtfkegnhpihoncaaGreat
open Go.Sp
set_option linter.unusedSimpArgs false
set_option linter.unusedVariables false
set_option maxHeartbeats 4000000
set_option maxRecDepth 100000
def smallB (g : G) (a b : Int) : Bool := decide (g.es.length ≤ 40) && (decide (checkG g ≠ 0) || (decide (g.n ≤ a) && decide (((endsL g.es).length : Int) ≤ b)))
theorem small_ok (g : G) (a b : Int) : ACall Tryz.prog 84 [tG g, tint a, tint b] (tbool (smallB g a b)) := by
  refine ACall.of_body Tryz.func84 rfl (by kernel_rfl) ?_
  simp only [entry, Tryz.ntmps84, tG, tint]
  refine zU ?_
  by_cases hl : g.es.length ≤ 40
  · by_cases hc : checkG g = 0
    · have hs := sm_of (g := g) (by omega) hc
      have e : smallB g a b = (decide (g.n ≤ a) && decide (((endsL g.es).length : Int) ≤ b)) := by unfold smallB; rw [decide_eq_true hl, hc, Bool.true_and, show decide ((0 : Int) ≠ 0) = false by decide, Bool.false_or]
      rw [e]
      by_cases hn : g.n ≤ a
      · rw [decide_eq_true hn, Bool.true_and]
        repeat' (first|((first|(refine zT ?_;intro K' hK')|(refine zG ?_ ?_<;>(try refine zH ?_)<;>intro hguard<;>(try exact zX)<;>try intro K' hK'))<;>((try simp +contextual only [go_sem, eRows_len, hc, hn]);(repeat' first|(with_reducible refine hK' _ _ ?_;clear hK' K')|((with_reducible first|refine zL (c:=CheckR_ok g (by omega)) (q:=?_)|refine zK (SizeR_ok g hs.s hs.es hs.m) ?_);try simp +contextual only [go_sem, eRows_len, hc, hn])|exact zY|with_reducible refine And.intro ?_ ?_|(with_reducible intro hpath;try exact zP)|(refine hK' _ _ ?_;clear hK' K')|fail);try refine zS ?_))|(refine zE ?_;refine hK _ _ ?_;clear hK K)|(refine zN ?_;try refine zS ?_)|refine zA ?_|(refine zB ?_;intro K hK)|(refine zC ?_ ?_<;>(try refine zH ?_)<;>intro hcond<;>try exact zX)|fail)
        simp [Rets, aret, Blk.cells, ty, Tryz.results84, ares, toT1, toT, borrow, borrow0, capCell, toTree0, tbool]
      · rw [decide_eq_false hn, Bool.false_and]
        repeat' (first|((first|(refine zT ?_;intro K' hK')|(refine zG ?_ ?_<;>(try refine zH ?_)<;>intro hguard<;>(try exact zX)<;>try intro K' hK'))<;>((try simp +contextual only [go_sem, eRows_len, hc, hn]);(repeat' first|(with_reducible refine hK' _ _ ?_;clear hK' K')|((with_reducible first|refine zL (c:=CheckR_ok g (by omega)) (q:=?_)|refine zK (SizeR_ok g hs.s hs.es hs.m) ?_);try simp +contextual only [go_sem, eRows_len, hc, hn])|exact zY|with_reducible refine And.intro ?_ ?_|(with_reducible intro hpath;try exact zP)|(refine hK' _ _ ?_;clear hK' K')|fail);try refine zS ?_))|(refine zE ?_;refine hK _ _ ?_;clear hK K)|(refine zN ?_;try refine zS ?_)|refine zA ?_|(refine zB ?_;intro K hK)|(refine zC ?_ ?_<;>(try refine zH ?_)<;>intro hcond<;>try exact zX)|fail)
        simp [Rets, aret, Blk.cells, ty, Tryz.results84, ares, toT1, toT, borrow, borrow0, capCell, toTree0, tbool]
    ·
      repeat' (first|((first|(refine zT ?_;intro K' hK')|(refine zG ?_ ?_<;>(try refine zH ?_)<;>intro hguard<;>(try exact zX)<;>try intro K' hK'))<;>((try simp +contextual only [go_sem, eRows_len]);(repeat' first|(with_reducible refine hK' _ _ ?_;clear hK' K')|(with_reducible refine zL (c:=CheckR_ok g (by omega)) (q:=?_);try simp +contextual only [go_sem, eRows_len])|exact zY|with_reducible refine And.intro ?_ ?_|(with_reducible intro hpath;try exact zP)|(refine hK' _ _ ?_;clear hK' K')|fail);try refine zS ?_))|(refine zE ?_;refine hK _ _ ?_;clear hK K)|(refine zN ?_;try refine zS ?_)|refine zA ?_|(refine zB ?_;intro K hK)|(refine zC ?_ ?_<;>(try refine zH ?_)<;>intro hcond<;>try exact zX)|fail)
      have e : smallB g a b = true := by unfold smallB; rw [decide_eq_true hl, decide_eq_true (show checkG g ≠ 0 from hc)]; rfl
      simp [Rets, aret, Blk.cells, ty, Tryz.results84, ares, toT1, toT, borrow, borrow0, capCell, toTree0, tbool, e]
  ·
    refine zR (zc @eRows_len trivial) trivial trivial ?_
    have e : smallB g a b = false := by unfold smallB; rw [decide_eq_false hl]; rfl
    simp [Rets, aret, Blk.cells, ty, Tryz.results84, ares, toT1, toT, borrow, borrow0, capCell, toTree0, tbool, e]
theorem FewG_ok (g : G) : ACall Tryz.prog 46 [tG g] (tbool (smallB g 6 9)) := by
  have h := small_ok g 6 9
  generalize smallB g 6 9 = b at *
  obtain ⟨n, es⟩ := g
  refine ACall.of_body Tryz.func46 rfl (by kernel_rfl) ?_
  simp only [entry, Tryz.ntmps46, tG]
  refine zU ?_
  refine zR trivial (zc h trivial) trivial ?_
  simp [Rets, aret, Blk.cells, ty, Tryz.results46, ares, toT1, toT, borrow, borrow0, capCell, toTree0, tbool]
def fewR (r : R) : Bool := smallB r.g 6 9 && (decide (r.ar.length ≤ 20) && r.ar.all fun l => decide (l.length ≤ 40))
theorem FewR_ok (r : R) : ACall Tryz.prog 11 [tR r] (tbool (fewR r)) := by
  have hG := FewG_ok r.g
  unfold fewR
  obtain ⟨n, es, ar⟩ := r
  simp only [R.g] at hG ⊢
  generalize smallB ⟨n, es⟩ 6 9 = b at *
  refine ACall.of_body Tryz.func11 rfl (by kernel_rfl) ?_
  simp only [entry, Tryz.ntmps11, tR]
  refine zU ?_
  cases b with
  | false =>
    rw [Bool.false_and]
    refine zR trivial (zc hG trivial) trivial ?_
    simp [Rets, aret, Blk.cells, ty, Tryz.results11, ares, toT1, toT, borrow, borrow0, capCell, toTree0, tbool]
  | true =>
    rw [Bool.true_and]
    by_cases hl : ar.length ≤ 20
    case neg =>
      have hlI : 20 < (ar.length : Int) := by omega
      rw [decide_eq_false hl, Bool.false_and]
      refine zR (zc @llRows_len (zc @hlI trivial)) (zc hG trivial) trivial ?_
      simp [Rets, aret, Blk.cells, ty, Tryz.results11, ares, toT1, toT, borrow, borrow0, capCell, toTree0, tbool]
    have hlI : ¬ (20 < (ar.length : Int)) := by omega
    rw [decide_eq_true hl, Bool.true_and]
    refine zR (zc @llRows_len (zc @hlI trivial)) (zc hG trivial) trivial ?_
    refine AWp.loopS (α:=Nat) 28 (fun i=>[(1,.c (.ptr 0 0)),(3,.c (.int .i64 (i : Int)))]) (fun i=>[.box [.int .i64 n, .slice (eRows es) .none, .slice (llRows ar) .none]]) (fun i=>i ≤ ar.length ∧ ∀ k l, k < i → ar[k]? = some l → l.length ≤ 40) (fun i=>ar.length - i) (0) (hk:=Weak.headL 1 28 [1, 3] zW) (h0:=?_) (round:=fun i hI=>?_)
    · exact ⟨Nat.zero_le _, fun k l hk => absurd hk (Nat.not_lt_zero _)⟩
    · obtain ⟨hi, hI2⟩ := hI
      by_cases hlt : i < ar.length
      · have hltI : (i : Int) < ar.length := by omega
        have e0 := List.getElem?_eq_getElem hlt
        have e1 := llRows_get e0
        generalize hx : ar[i] = l at *
        by_cases hll : l.length ≤ 40
        · have hllI : ¬ (40 < (l.length : Int)) := by omega
          refine zR (zc @hltI (zc @llRows_len (zc @iRows_len (zc @e1 (zc @hllI trivial))))) trivial trivial ?_
          refine ⟨i + 1,Weak.headN 1 28 [1, 3] zW,?_,?_⟩
          · refine ⟨hlt, fun k m hk hm => ?_⟩
            by_cases e : k = i
            · subst e; rw [e0] at hm; cases hm; exact hll
            · exact hI2 k m (by omega) hm
          · omega
        · have hllI : 40 < (l.length : Int) := by omega
          have e : (ar.all fun l => decide (l.length ≤ 40)) = false := by
            rw [← Bool.not_eq_true, List.all_eq_true]
            intro h
            have := h l (List.mem_of_getElem? e0)
            exact hll (by simpa using this)
          rw [e]
          refine zR (zc @hltI (zc @llRows_len (zc @iRows_len (zc @e1 (zc @hllI trivial))))) trivial trivial ?_
          simp [Rets, aret, Blk.cells, ty, Tryz.results11, ares, toT1, toT, borrow, borrow0, capCell, toTree0, tbool]
      · have e : (ar.all fun l => decide (l.length ≤ 40)) = true := by
          rw [List.all_eq_true]
          intro l hl2
          obtain ⟨k, hk, rfl⟩ := List.mem_iff_getElem.1 hl2
          exact decide_eq_true (hI2 k _ (by omega) (List.getElem?_eq_getElem hk))
        rw [e]
        have hnl : ¬ ((i : Int) < ar.length) := by omega
        refine zR (zc @hnl (zc @llRows_len trivial)) trivial trivial ?_
        simp [Rets, aret, Blk.cells, ty, Tryz.results11, ares, toT1, toT, borrow, borrow0, capCell, toTree0, tbool]
theorem rsm_of {r : R} (h : fewR r = true) : RSm r := by
  unfold fewR smallB at h
  simp only [Bool.and_eq_true, decide_eq_true_eq, List.all_eq_true] at h
  exact ⟨h.1.1, by omega, fun l hl => by have := h.2.2 l hl; omega⟩
end Go.Proofs.YtfkegnhpihoncaaGreat
set_option linter.all false
namespace Go.Proofs.YtfkegnhpihoncaaGreat
open Go.Sp
set_option linter.unusedSimpArgs false
set_option linter.unusedVariables false
set_option maxHeartbeats 4000000
set_option maxRecDepth 100000
def allB (h : Nat) (F : List Nat) (i : Nat) : Bool := (F.take i).all fun y => decide (h ≤ y)
end Go.Proofs.YtfkegnhpihoncaaGreat
set_option linter.all false
namespace Go.Proofs.YtfkegnhpihoncaaGreat
open Go.Sp
set_option linter.unusedSimpArgs false
set_option linter.unusedVariables false
set_option maxHeartbeats 4000000
set_option maxRecDepth 100000
theorem refOwn_ok (g : G) (hl : g.es.length ≤ 40) (hc : checkG g = 0) (v : Int) : ACall Tryz.prog 110 [tG g, tint v] (tints (ownL (endsL g.es) v (2 * (endsL g.es).length))) := by
  have hH := refHalf_ok g hl hc
  have hA := fun (h : Nat) (hh : h < 2 * (endsL g.es).length) => refAt_ok g hl hc h hh
  have hlen := ends_len hl hc
  clear hc
  obtain ⟨n, es⟩ := g
  simp only at hH hA hlen hl ⊢
  generalize endsL es = L at *
  refine ACall.of_body Tryz.func110 rfl (by kernel_rfl) ?_
  simp only [entry, Tryz.ntmps110, tG, tint]
  refine zU ?_
  refine zR trivial trivial trivial ?_
  refine AWp.weak (Weak.opens ((fun t f => [f, f, f, f, f, t, f, f, f, f, f, f, f, f, f, f, f, f, f, f, f, f, f]) true false) 1 (by first | omega | simp)) ?_
  simp only [openS, openV, List.length_cons, List.length_nil, List.length_append, Nat.reduceAdd, List.cons_append, List.nil_append]
  refine AWp.loopS (α:=Nat) 23 (fun h=>[(1,.c (.int .i64 v)),(2,.c (.ptr 0 0)),(5,.c (.slice (iRows (ownL L v h)) (.chain 1))),(6,.c (.int .i64 (h : Int)))]) (fun h=>[.box [.int .i64 n, .slice (eRows es) .none], .chain (ownL L v h).length 1]) (fun h=>h ≤ 2 * L.length) (fun h=>2 * L.length - h) (0) (hk:=Weak.headL 2 23 [1, 2, 5, 6] zW) (h0:=?_) (round:=fun h hI=>?_)
  · exact Nat.zero_le _
  · have hh : h ≤ 2 * L.length := hI
    clear hI
    have hol := ownL_len L v h
    by_cases hlt : h < 2 * L.length
    · have hltI : (h : Int) < 2 * (L.length : Int) := by omega
      have hAh := hA h hlt
      have hsucc := ownL_succ L v h
      by_cases hv : atL L h = v
      · rw [if_pos hv] at hsucc
        have hrs := iRows_snoc (ownL L v h) (h : Int)
        rw [← hsucc] at hrs
        have hln : (ownL L v (h + 1)).length = (ownL L v h).length + 1 := by rw [hsucc]; simp
        rw [hv] at hAh
        refine zRc (zc @hltI (zc @hrs (zc @iRows_len trivial))) (zc hH (zc hAh trivial)) @iRows_k' ?_
        refine ⟨h + 1,Weak.headF 2 23 [1, 2, 5, 6] (zc @hln trivial) zW,?_,?_⟩
        · exact hlt
        · omega
      · rw [if_neg hv] at hsucc
        rw [← hsucc] at hol ⊢
        refine zR (zc @hltI (zc @hv trivial)) (zc hH (zc hAh trivial)) trivial ?_
        refine ⟨h + 1,Weak.headN 2 23 [1, 2, 5, 6] zW,?_,?_⟩
        · exact hlt
        · omega
    · have eh : h = 2 * L.length := by omega
      have hnl : ¬ ((h : Int) < 2 * (L.length : Int)) := by omega
      refine zR (zc @hnl trivial) (zc hH trivial) trivial ?_
      rw [eh]
      simp [Rets, aret, Blk.cells, ty, Tryz.results110, ares, toT1, toT, borrow, borrow0, capCell, toTree0, tints]
def halvesU (L : List (Int × Int)) (v : Nat) : List (List Int) := (List.range v).map fun u : Nat => ownL L (u : Int) (2 * L.length)
theorem halvesU_succ (L : List (Int × Int)) (v : Nat) : halvesU L (v + 1) = halvesU L v ++ [ownL L (v : Int) (2 * L.length)] := by simp [halvesU, List.range_succ]
theorem halvesU_len (L : List (Int × Int)) (v : Nat) : (halvesU L v).length = v := by simp [halvesU]
theorem halvesU_all (L : List (Int × Int)) (n : Nat) : halvesU L n = halvesL L n (2 * L.length) := rfl
theorem refPlain_ok (g : G) (hl : g.es.length ≤ 40) (hc : checkG g = 0) : ACall Tryz.prog 68 [tG g] (tR ⟨g.n, g.es, halvesL (endsL g.es) g.n.toNat (2 * (endsL g.es).length)⟩) := by
  have hE := fun (v : Nat) => refOwn_ok g hl hc (v : Int)
  have h12 := (checkG_zero.1 hc).1
  rw [← halvesU_all]
  clear hc
  obtain ⟨n, es⟩ := g
  simp only at hE h12 hl ⊢
  obtain ⟨m, rfl⟩ := Int.eq_ofNat_of_zero_le (show 0 ≤ n by omega)
  rw [Int.toNat_natCast]
  generalize endsL es = L at *
  refine ACall.of_body Tryz.func68 rfl (by kernel_rfl) ?_
  simp only [entry, Tryz.ntmps68, tG]
  refine zU ?_
  repeat' ((fail_if_success (with_reducible refine AWp.atSeq 2 ?_));(fail_if_success (with_reducible refine AWp.atLast 2 ?_));first|((first|(refine zT ?_;intro K' hK')|(refine zG ?_ ?_<;>(try refine zH ?_)<;>intro hguard<;>(try exact zX)<;>try intro K' hK'))<;>((try simp +contextual only [go_sem]);(repeat' first|(with_reducible refine hK' _ _ ?_;clear hK' K')|exact zY|with_reducible refine And.intro ?_ ?_|(with_reducible intro hpath;try exact zP)|(refine hK' _ _ ?_;clear hK' K')|fail);try refine zS ?_))|(refine zE ?_;refine hK _ _ ?_;clear hK K)|(refine zN ?_;try refine zS ?_)|refine zA ?_|(refine zB ?_;intro K hK)|(refine zC ?_ ?_<;>(try refine zH ?_)<;>intro hcond<;>try exact zX)|fail)
  refine AWp.weak (Weak.openB 2 2 1 rfl rfl (by omega)) ?_
  simp only [List.set_cons_succ, List.set_cons_zero, List.length_cons, List.length_nil, List.length_append, Nat.reduceAdd, List.cons_append, List.nil_append]
  refine zR trivial trivial trivial ?_
  refine AWp.loopS (α:=Nat) 22 (fun v=>[(1,.c (.ptr 0 0)),(2,.c (.ptr 1 0)),(3,.c (.ptr 2 0)),(4,.c (.int .i64 (v : Int)))]) (fun v=>[.box [.int .i64 (m : Int), .slice (eRows es) .none], .box [.int .i64 0, .nils, .nils], .box [.int .i64 (m : Int), .slice (eRows es) .none, .slice (llRows (halvesU L v)) (.chain 3)], .chain (halvesU L v).length 1]) (fun v=>v ≤ m) (fun v=>m - v) (0) (hk:=Weak.headL 4 22 [1, 2, 3, 4] zW) (h0:=?_) (round:=fun v hI=>?_)
  · exact Nat.zero_le _
  · have hv : v ≤ m := hI
    clear hI
    by_cases hlt : v < m
    · have hltI : (v : Int) < (m : Int) := by omega
      have hEv := hE v
      have hsn := halvesU_succ L v
      have hln := halvesU_len L v
      have hln2 := halvesU_len L (v + 1)
      have hrs := llRows_snoc (halvesU L v) (ownL L (v : Int) (2 * L.length))
      rw [← hsn] at hrs
      generalize ownL L (v : Int) (2 * L.length) = own at *
      generalize hM2 : halvesU L (v + 1) = M2 at *
      generalize halvesU L v = M at *
      refine zRc (zc @hltI (zc @llRows_len (zc @hrs trivial))) (zc hEv trivial) @llRows_k' ?_
      refine ⟨v + 1,Weak.headF 4 22 [1, 2, 3, 4] (zc @hM2 (zc @hln2 (zc @hln trivial))) zW,?_,?_⟩
      · exact hlt
      · omega
    · have ev : v = m := by omega
      subst ev
      have hnl : ¬ ((v : Int) < (v : Int)) := by omega
      refine zR (zc @hnl trivial) trivial trivial ?_
      simp [Rets, aret, Blk.cells, ty, Tryz.results68, ares, toT1, toT, borrow, borrow0, capCell, toTree0, tR]
theorem refDefault_ok (g : G) (hl : g.es.length ≤ 40) : ACall Tryz.prog 29 [tG g] (.tup [tR (if joinedE g ≠ 0 then ⟨0, [], []⟩ else ⟨g.n, g.es, halvesL (endsL g.es) g.n.toNat (2 * (endsL g.es).length)⟩), tint (joinedE g)]) := by
  have hJ := refJoined_ok g hl
  by_cases hj : joinedE g = 0
  · have hc : checkG g = 0 := by
      unfold joinedE at hj
      by_cases h : checkG g = 0
      · exact h
      · rw [if_pos h] at hj; exact absurd hj h
    have hP := refPlain_ok g hl hc
    rw [if_neg (by omega), hj]
    rw [hj] at hJ
    generalize halvesL (endsL g.es) g.n.toNat (2 * (endsL g.es).length) = M at *
    clear hc hj
    obtain ⟨n, es⟩ := g
    simp only at hP ⊢
    simp only [tR] at hP
    refine ACall.of_body Tryz.func29 rfl (by kernel_rfl) ?_
    simp only [entry, Tryz.ntmps29, tG]
    refine zU ?_
    refine zR trivial (zc hJ (zc hP trivial)) trivial ?_
    simp [Rets, aret, Blk.cells, ty, Tryz.results29, ares, toT1, toT, borrow, borrow0, capCell, toTree0, tint, tR]
  · rw [if_pos hj]
    generalize joinedE g = E at *
    obtain ⟨n, es⟩ := g
    refine ACall.of_body Tryz.func29 rfl (by kernel_rfl) ?_
    simp only [entry, Tryz.ntmps29, tG]
    refine zU ?_
    refine zR (zc @hj trivial) (zc hJ trivial) trivial ?_
    simp [Rets, aret, Blk.cells, ty, Tryz.results29, ares, toT1, toT, borrow, borrow0, capCell, toTree0, tint, tR, eRows, llRows]
end Go.Proofs.YtfkegnhpihoncaaGreat
