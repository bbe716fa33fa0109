/- A part of the proof: contracts of functions of the program, and plain lemmas. -/
import Derived.Test.YtfkegnhpihoncaaGreatPart23
import Derived.Test.YtfkegnhpihoncaaGreatPart25
import Derived.Test.YtfkegnhpihoncaaGreatLayerC
import Derived.Test.YtfkegnhpihoncaaGreatPart22
import Derived.Test.YtfkegnhpihoncaaGreatPart21
import Derived.Test.YtfkegnhpihoncaaGreatPart17
import Derived.Test.YtfkegnhpihoncaaGreatPart08
set_option linter.all false
namespace Go.Proofs.YtfkegnhpihoncaaGreat
open Go.Sp
set_option linter.unusedSimpArgs false
set_option linter.unusedVariables false
set_option maxHeartbeats 4000000
set_option maxRecDepth 100000
theorem Triangle_ok : ACall Tryz.prog 47 [] (tG triG) := by
  refine ACall.of_body Tryz.func47 rfl (by kernel_rfl) ?_
  simp only [entry, Tryz.ntmps47]
  refine zU ?_
  refine zRc trivial trivial trivial ?_
  simp [Rets, aret, Blk.cells, ty, Tryz.results47, ares, toT1, toT, borrow, borrow0, capCell, toTree0, tG, eRows, eRow, triG]
theorem Loops_ok (l : List Int) : ACall Tryz.prog 48 [tints l] (tR (loopR l)) := by
  refine ACall.of_body Tryz.func48 rfl (by kernel_rfl) ?_
  simp only [entry, Tryz.ntmps48, tints]
  refine zU ?_
  refine zRc trivial trivial trivial ?_
  simp [Rets, aret, Blk.cells, ty, Tryz.results48, ares, toT1, toT, borrow, borrow0, capCell, toTree0, tR, eRows, eRow, llRows, loopR]
theorem awake44_ok : ACall Tryz.prog 12 [] (tbool true) := by
  have hT := Triangle_ok
  have hD0 := rDefault_ok triG (by decide)
  rw [if_neg (by rw [tri_joined]; decide), tri_joined, tri_halves] at hD0
  have hD : ACall Tryz.prog 28 [tG triG] (.tup [tR triR, tint 0]) := hD0
  have hF := rFaces_ok triR rsm_tri
  rw [if_neg (by rw [tri_rib]; decide), tri_rib, tri_faces] at hF
  have hU := rDual_ok triR rsm_tri
  rw [tri_dualD, tri_dualN, tri_dualE] at hU
  have s1 := SameLists_ok [[0, 2], [1, 4], [3, 5]] [[0, 2], [1, 4], [3, 5]] (by decide) (by decide) (by decide) (by decide)
  have s2 := SameLists_ok [[0, 4, 3], [1, 2, 5]] [[0, 4, 3], [1, 2, 5]] (by decide) (by decide) (by decide) (by decide)
  have s3 := SameRR_ok ⟨2, [⟨0, 1, 3⟩], [[0, 4, 2], [1, 3, 5]]⟩ ⟨2, [⟨0, 1, 3⟩], [[0, 4, 2], [1, 3, 5]]⟩ ⟨by decide, by decide, by decide⟩ ⟨by decide, by decide, by decide⟩
  rw [(sameR_iff _ _).2 rfl] at s3
  have s4 := Equal_ok [0, 1, 2] [0, 1, 2] (by decide) (by decide)
  have l1 := Loops_ok [0, 1, 2, 3]
  have l2 := Loops_ok [0, 2, 1, 3]
  have f1 := rFaces_ok (loopR [0, 1, 2, 3]) (rsm_loop _ (by decide))
  rw [if_neg (by rw [loopA_rib]; decide), loopA_rib, loopA_faces] at f1
  have f2 := rFaces_ok (loopR [0, 2, 1, 3]) (rsm_loop _ (by decide))
  rw [if_neg (by rw [loopB_rib]; decide), loopB_rib, loopB_faces] at f2
  have g1 := rGenus_ok (loopR [0, 1, 2, 3]) (rsm_loop _ (by decide))
  rw [if_neg (by rw [loopA_rib]; decide), loopA_rib, loopA_genus] at g1
  have g2 := rGenus_ok (loopR [0, 2, 1, 3]) (rsm_loop _ (by decide))
  rw [if_neg (by rw [loopB_rib]; decide), loopB_rib, loopB_genus] at g2
  have s5 := SameLists_ok [[0, 2], [1], [3]] [[0, 2], [1], [3]] (by decide) (by decide) (by decide) (by decide)
  have s6 := SameLists_ok [[0, 3, 1, 2]] [[0, 3, 1, 2]] (by decide) (by decide) (by decide) (by decide)
  rw [decide_eq_true rfl] at s1 s2 s4 s5 s6
  unfold tR triR at hD hF hU
  unfold tR at s3
  unfold tR loopR at l1 l2 f1 f2 g1 g2
  unfold tlists at hF s1 s2 s5 s6 f1 f2
  simp only at hD hF hU s3 l1 l2 f1 f2 g1 g2
  refine ACall.of_body Tryz.func12 rfl (by kernel_rfl) ?_
  simp only [entry, Tryz.ntmps12]
  refine zU ?_
  repeat' (first|((first|(refine zT ?_;intro K' hK')|(refine zG ?_ ?_<;>(try refine zH ?_)<;>intro hguard<;>(try exact zX)<;>try intro K' hK'))<;>((try simp +contextual only [go_sem, chunks, List.range, List.range.loop]);(repeat' first|(with_reducible refine hK' _ _ ?_;clear hK' K')|((with_reducible first|refine zK hT ?_|refine zK hD ?_|refine zK hF ?_|refine zK hU ?_|refine zK s1 ?_|refine zK s2 ?_|refine zK s3 ?_|refine zK s4 ?_|refine zK l1 ?_|refine zK l2 ?_|refine zK f1 ?_|refine zK f2 ?_|refine zK g1 ?_|refine zK g2 ?_|refine zK s5 ?_|refine zK s6 ?_);try simp +contextual only [go_sem, chunks, List.range, List.range.loop])|exact zY|with_reducible refine And.intro ?_ ?_|(with_reducible intro hpath;try exact zP)|(refine hK' _ _ ?_;clear hK' K')|fail);try refine zS ?_))|(refine zE ?_;refine hK _ _ ?_;clear hK K)|(refine zN ?_;try refine zS ?_)|refine zA ?_|(refine zB ?_;intro K hK)|(refine zC ?_ ?_<;>(try refine zH ?_)<;>intro hcond<;>try exact zX)|fail)
  simp [Rets, aret, Blk.cells, ty, Tryz.results12, ares, toT1, toT, borrow, borrow0, capCell, toTree0, tbool]
end Go.Proofs.YtfkegnhpihoncaaGreat
set_option linter.all false
namespace Go.Proofs.YtfkegnhpihoncaaGreat
open Go.Sp
set_option linter.unusedSimpArgs false
set_option linter.unusedVariables false
set_option maxHeartbeats 4000000
set_option maxRecDepth 100000
def smallB (g : G) (a b : Int) : Bool := decide (g.es.length ≤ 40) && (decide (checkG g ≠ 0) || (decide (g.n ≤ a) && decide (((endsL g.es).length : Int) ≤ b)))
theorem small_ok (g : G) (a b : Int) : ACall Tryz.prog 84 [tG g, tint a, tint b] (tbool (smallB g a b)) := by
  refine ACall.of_body Tryz.func84 rfl (by kernel_rfl) ?_
  simp only [entry, Tryz.ntmps84, tG, tint]
  refine zU ?_
  by_cases hl : g.es.length ≤ 40
  · by_cases hc : checkG g = 0
    · have hs := sm_of (g := g) (by omega) hc
      have e : smallB g a b = (decide (g.n ≤ a) && decide (((endsL g.es).length : Int) ≤ b)) := by unfold smallB; rw [decide_eq_true hl, hc, Bool.true_and, show decide ((0 : Int) ≠ 0) = false by decide, Bool.false_or]
      rw [e]
      by_cases hn : g.n ≤ a
      · rw [decide_eq_true hn, Bool.true_and]
        repeat' (first|((first|(refine zT ?_;intro K' hK')|(refine zG ?_ ?_<;>(try refine zH ?_)<;>intro hguard<;>(try exact zX)<;>try intro K' hK'))<;>((try simp +contextual only [go_sem, eRows_len, hc, hn]);(repeat' first|(with_reducible refine hK' _ _ ?_;clear hK' K')|((with_reducible first|refine zL (c:=CheckR_ok g (by omega)) (q:=?_)|refine zK (SizeR_ok g hs.s hs.es hs.m) ?_);try simp +contextual only [go_sem, eRows_len, hc, hn])|exact zY|with_reducible refine And.intro ?_ ?_|(with_reducible intro hpath;try exact zP)|(refine hK' _ _ ?_;clear hK' K')|fail);try refine zS ?_))|(refine zE ?_;refine hK _ _ ?_;clear hK K)|(refine zN ?_;try refine zS ?_)|refine zA ?_|(refine zB ?_;intro K hK)|(refine zC ?_ ?_<;>(try refine zH ?_)<;>intro hcond<;>try exact zX)|fail)
        simp [Rets, aret, Blk.cells, ty, Tryz.results84, ares, toT1, toT, borrow, borrow0, capCell, toTree0, tbool]
      · rw [decide_eq_false hn, Bool.false_and]
        repeat' (first|((first|(refine zT ?_;intro K' hK')|(refine zG ?_ ?_<;>(try refine zH ?_)<;>intro hguard<;>(try exact zX)<;>try intro K' hK'))<;>((try simp +contextual only [go_sem, eRows_len, hc, hn]);(repeat' first|(with_reducible refine hK' _ _ ?_;clear hK' K')|((with_reducible first|refine zL (c:=CheckR_ok g (by omega)) (q:=?_)|refine zK (SizeR_ok g hs.s hs.es hs.m) ?_);try simp +contextual only [go_sem, eRows_len, hc, hn])|exact zY|with_reducible refine And.intro ?_ ?_|(with_reducible intro hpath;try exact zP)|(refine hK' _ _ ?_;clear hK' K')|fail);try refine zS ?_))|(refine zE ?_;refine hK _ _ ?_;clear hK K)|(refine zN ?_;try refine zS ?_)|refine zA ?_|(refine zB ?_;intro K hK)|(refine zC ?_ ?_<;>(try refine zH ?_)<;>intro hcond<;>try exact zX)|fail)
        simp [Rets, aret, Blk.cells, ty, Tryz.results84, ares, toT1, toT, borrow, borrow0, capCell, toTree0, tbool]
    ·
      repeat' (first|((first|(refine zT ?_;intro K' hK')|(refine zG ?_ ?_<;>(try refine zH ?_)<;>intro hguard<;>(try exact zX)<;>try intro K' hK'))<;>((try simp +contextual only [go_sem, eRows_len]);(repeat' first|(with_reducible refine hK' _ _ ?_;clear hK' K')|(with_reducible refine zL (c:=CheckR_ok g (by omega)) (q:=?_);try simp +contextual only [go_sem, eRows_len])|exact zY|with_reducible refine And.intro ?_ ?_|(with_reducible intro hpath;try exact zP)|(refine hK' _ _ ?_;clear hK' K')|fail);try refine zS ?_))|(refine zE ?_;refine hK _ _ ?_;clear hK K)|(refine zN ?_;try refine zS ?_)|refine zA ?_|(refine zB ?_;intro K hK)|(refine zC ?_ ?_<;>(try refine zH ?_)<;>intro hcond<;>try exact zX)|fail)
      have e : smallB g a b = true := by unfold smallB; rw [decide_eq_true hl, decide_eq_true (show checkG g ≠ 0 from hc)]; rfl
      simp [Rets, aret, Blk.cells, ty, Tryz.results84, ares, toT1, toT, borrow, borrow0, capCell, toTree0, tbool, e]
  ·
    refine zR (zc @eRows_len trivial) trivial trivial ?_
    have e : smallB g a b = false := by unfold smallB; rw [decide_eq_false hl]; rfl
    simp [Rets, aret, Blk.cells, ty, Tryz.results84, ares, toT1, toT, borrow, borrow0, capCell, toTree0, tbool, e]
theorem FewG_ok (g : G) : ACall Tryz.prog 46 [tG g] (tbool (smallB g 6 9)) := by
  have h := small_ok g 6 9
  generalize smallB g 6 9 = b at *
  obtain ⟨n, es⟩ := g
  refine ACall.of_body Tryz.func46 rfl (by kernel_rfl) ?_
  simp only [entry, Tryz.ntmps46, tG]
  refine zU ?_
  refine zR trivial (zc h trivial) trivial ?_
  simp [Rets, aret, Blk.cells, ty, Tryz.results46, ares, toT1, toT, borrow, borrow0, capCell, toTree0, tbool]
def fewR (r : R) : Bool := smallB r.g 6 9 && (decide (r.ar.length ≤ 20) && r.ar.all fun l => decide (l.length ≤ 40))
theorem FewR_ok (r : R) : ACall Tryz.prog 11 [tR r] (tbool (fewR r)) := by
  have hG := FewG_ok r.g
  unfold fewR
  obtain ⟨n, es, ar⟩ := r
  simp only [R.g] at hG ⊢
  generalize smallB ⟨n, es⟩ 6 9 = b at *
  refine ACall.of_body Tryz.func11 rfl (by kernel_rfl) ?_
  simp only [entry, Tryz.ntmps11, tR]
  refine zU ?_
  cases b with
  | false =>
    rw [Bool.false_and]
    refine zR trivial (zc hG trivial) trivial ?_
    simp [Rets, aret, Blk.cells, ty, Tryz.results11, ares, toT1, toT, borrow, borrow0, capCell, toTree0, tbool]
  | true =>
    rw [Bool.true_and]
    by_cases hl : ar.length ≤ 20
    case neg =>
      have hlI : 20 < (ar.length : Int) := by omega
      rw [decide_eq_false hl, Bool.false_and]
      refine zR (zc @llRows_len (zc @hlI trivial)) (zc hG trivial) trivial ?_
      simp [Rets, aret, Blk.cells, ty, Tryz.results11, ares, toT1, toT, borrow, borrow0, capCell, toTree0, tbool]
    have hlI : ¬ (20 < (ar.length : Int)) := by omega
    rw [decide_eq_true hl, Bool.true_and]
    refine zR (zc @llRows_len (zc @hlI trivial)) (zc hG trivial) trivial ?_
    refine AWp.loopS (α:=Nat) 28 (fun i=>[(1,.c (.ptr 0 0)),(3,.c (.int .i64 (i : Int)))]) (fun i=>[.box [.int .i64 n, .slice (eRows es) .none, .slice (llRows ar) .none]]) (fun i=>i ≤ ar.length ∧ ∀ k l, k < i → ar[k]? = some l → l.length ≤ 40) (fun i=>ar.length - i) (0) (hk:=Weak.headL 1 28 [1, 3] zW) (h0:=?_) (round:=fun i hI=>?_)
    · exact ⟨Nat.zero_le _, fun k l hk => absurd hk (Nat.not_lt_zero _)⟩
    · obtain ⟨hi, hI2⟩ := hI
      by_cases hlt : i < ar.length
      · have hltI : (i : Int) < ar.length := by omega
        have e0 := List.getElem?_eq_getElem hlt
        have e1 := llRows_get e0
        generalize hx : ar[i] = l at *
        by_cases hll : l.length ≤ 40
        · have hllI : ¬ (40 < (l.length : Int)) := by omega
          refine zR (zc @hltI (zc @llRows_len (zc @iRows_len (zc @e1 (zc @hllI trivial))))) trivial trivial ?_
          refine ⟨i + 1,Weak.headN 1 28 [1, 3] zW,?_,?_⟩
          · refine ⟨hlt, fun k m hk hm => ?_⟩
            by_cases e : k = i
            · subst e; rw [e0] at hm; cases hm; exact hll
            · exact hI2 k m (by omega) hm
          · omega
        · have hllI : 40 < (l.length : Int) := by omega
          have e : (ar.all fun l => decide (l.length ≤ 40)) = false := by
            rw [← Bool.not_eq_true, List.all_eq_true]
            intro h
            have := h l (List.mem_of_getElem? e0)
            exact hll (by simpa using this)
          rw [e]
          refine zR (zc @hltI (zc @llRows_len (zc @iRows_len (zc @e1 (zc @hllI trivial))))) trivial trivial ?_
          simp [Rets, aret, Blk.cells, ty, Tryz.results11, ares, toT1, toT, borrow, borrow0, capCell, toTree0, tbool]
      · have e : (ar.all fun l => decide (l.length ≤ 40)) = true := by
          rw [List.all_eq_true]
          intro l hl2
          obtain ⟨k, hk, rfl⟩ := List.mem_iff_getElem.1 hl2
          exact decide_eq_true (hI2 k _ (by omega) (List.getElem?_eq_getElem hk))
        rw [e]
        have hnl : ¬ ((i : Int) < ar.length) := by omega
        refine zR (zc @hnl (zc @llRows_len trivial)) trivial trivial ?_
        simp [Rets, aret, Blk.cells, ty, Tryz.results11, ares, toT1, toT, borrow, borrow0, capCell, toTree0, tbool]
theorem rsm_of {r : R} (h : fewR r = true) : RSm r := by
  unfold fewR smallB at h
  simp only [Bool.and_eq_true, decide_eq_true_eq, List.all_eq_true] at h
  exact ⟨h.1.1, by omega, fun l hl => by have := h.2.2 l hl; omega⟩
end Go.Proofs.YtfkegnhpihoncaaGreat
set_option linter.all false
namespace Go.Proofs.YtfkegnhpihoncaaGreat
open Go.Sp
set_option linter.unusedSimpArgs false
set_option linter.unusedVariables false
set_option maxHeartbeats 4000000
set_option maxRecDepth 100000
def allB (h : Nat) (F : List Nat) (i : Nat) : Bool := (F.take i).all fun y => decide (h ≤ y)
end Go.Proofs.YtfkegnhpihoncaaGreat
set_option linter.all false
namespace Go.Proofs.YtfkegnhpihoncaaGreat
open Go.Sp
set_option linter.unusedSimpArgs false
set_option linter.unusedVariables false
set_option maxHeartbeats 4000000
set_option maxRecDepth 100000
theorem refTurned_ok (l : List Int) (hl : l.length < 2 ^ 30) : ACall Tryz.prog 62 [tints l] (tints (turnL l)) := by
  refine ACall.of_body Tryz.func62 rfl (by kernel_rfl) ?_
  simp only [entry, Tryz.ntmps62, tints]
  refine zU ?_
  refine zR trivial trivial trivial ?_
  refine AWp.loopS (α:=Nat) 30 (fun k=>[(0,.c (.slice (iRows l) .none)),(3,.c (.int .i64 ((leastGo l k : Nat) : Int))),(4,.c (.int .i64 ((k : Int) + 1)))]) (fun k=>[]) (fun k=>k = 0 ∨ k + 1 ≤ l.length) (fun k=>l.length - k) (0) (hk:=Weak.headL 0 30 [0, 3, 4] zW) (h0:=?_) (round:=fun k hI=>?_)
  · exact .inl rfl
  · have hk := hI
    clear hI
    obtain ⟨s1, _, _⟩ := leastGo_spec l k
    by_cases hlt : k + 1 < l.length
    · have hltI : (k : Int) + 1 < (l.length : Int) := by omega
      have e0 := List.getElem?_eq_getElem hlt
      have e1 := iRows_get e0
      have f0 := List.getElem?_eq_getElem (show leastGo l k < l.length by omega)
      have f1 := iRows_get f0
      have hgo : leastGo l (k + 1) = if l.getD (k + 1) 0 < l.getD (leastGo l k) 0 then k + 1 else leastGo l k := rfl
      rw [List.getD_eq_getElem?_getD, List.getD_eq_getElem?_getD, e0, f0, Option.getD_some, Option.getD_some] at hgo
      generalize l[k + 1] = x at *
      generalize l[leastGo l k] = y at *
      have ht : ((k : Int) + 1).toNat = k + 1 := by omega
      have hll : (leastGo l k : Int) < (l.length : Int) := by omega
      by_cases hxy : x < y
      · rw [if_pos hxy] at hgo
        generalize leastGo l k = z at *
        refine zR (zc @hltI (zc @iRows_len (zc @e1 (zc @f1 (zc @ht (zc @hll (zc @hxy trivial))))))) trivial trivial ?_
        refine ⟨k + 1,Weak.headF 0 30 [0, 3, 4] (zc @hgo trivial) zW,?_,?_⟩
        · exact .inr (by omega)
        · omega
      · rw [if_neg hxy] at hgo
        generalize leastGo l k = z at *
        refine zR (zc @hltI (zc @iRows_len (zc @e1 (zc @f1 (zc @ht (zc @hll (zc @hxy trivial))))))) trivial trivial ?_
        refine ⟨k + 1,Weak.headF 0 30 [0, 3, 4] (zc @hgo trivial) zW,?_,?_⟩
        · exact .inr (by omega)
        · omega
    · have hnl : ¬ ((k : Int) + 1 < (l.length : Int)) := by omega
      have ek : k = l.length - 1 := by omega
      have el : leastGo l k = leastN l := by rw [ek]; rfl
      have hln : leastN l ≤ l.length := by omega
      have hnI : (leastN l : Int) ≤ (l.length : Int) := by omega
      rw [el]
      have hd : (iRows l).drop (leastN l) = iRows (l.drop (leastN l)) := iRows_drop l _
      have ht : (iRows l).take (leastN l) = iRows (l.take (leastN l)) := iRows_take l _
      have hta : (iRows l).take l.length = iRows l := List.take_of_length_le (by rw [iRows_len]; exact Nat.le_refl _)
      have hcat : iRows (l.drop (leastN l)) ++ iRows (l.take (leastN l)) = iRows (turnL l) := by simp [iRows, turnL]
      have hlA : (l.drop (leastN l)).length ≤ l.length := by rw [List.length_drop]; omega
      have hlB : (l.take (leastN l)).length ≤ l.length := by rw [List.length_take]; omega
      generalize turnL l = T at *
      generalize leastN l = m at *
      generalize hA : l.drop m = A at *
      generalize hB : l.take m = B at *
      refine zRc2 (zc @hnl (zc @iRows_len (zc @Int.toNat_zero (zc @hnI (zc @hd (zc @ht (zc @hta (zc @hcat trivial)))))))) trivial @iRows_k' ?_ ?_
      ·
        simp [Rets, aret, Blk.cells, ty, Tryz.results62, ares, toT1, toT, borrow, borrow0, capCell, toTree0, tints]
      ·
        simp [Rets, aret, Blk.cells, ty, Tryz.results62, ares, toT1, toT, borrow, borrow0, capCell, toTree0, tints]
end Go.Proofs.YtfkegnhpihoncaaGreat
set_option linter.all false
namespace Go.Proofs.YtfkegnhpihoncaaGreat
open Go.Sp
set_option linter.unusedSimpArgs false
set_option linter.unusedVariables false
set_option maxHeartbeats 4000000
set_option maxRecDepth 100000
theorem _root_.Go.Sp.Weak.untok {h : Nat} {tm : List AVal} {H : List Blk} (t : Nat) {rows : List (List Tree)} {tok : Tok} (ht : tm[t]? = some (.c (.slice rows tok))) : Weak h ⟨tm, H⟩ ⟨tm.set t (.c (.slice rows .none)), H⟩ := by
  intro ι σ a w hr
  exact ⟨ι, ⟨tmps_set ht (fun v hv => ⟨hv.1, trivial⟩) hr.tmps, hr.heap⟩, rfl, rfl⟩
end Go.Proofs.YtfkegnhpihoncaaGreat
