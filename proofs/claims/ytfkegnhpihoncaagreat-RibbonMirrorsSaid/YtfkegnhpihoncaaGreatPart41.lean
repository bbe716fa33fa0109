/- A part of the proof: contracts of functions of the program, and plain lemmas. -/
import Derived.Test.YtfkegnhpihoncaaGreatPart33
import Derived.Test.YtfkegnhpihoncaaGreatPart40
import Derived.Test.YtfkegnhpihoncaaGreatLayerC
set_option linter.all false
namespace Go.Proofs.YtfkegnhpihoncaaGreat
open Go.Sp
set_option linter.unusedSimpArgs false
set_option linter.unusedVariables false
set_option maxHeartbeats 4000000
set_option maxRecDepth 100000
def smallB (g : G) (a b : Int) : Bool := decide (g.es.length ≤ 40) && (decide (checkG g ≠ 0) || (decide (g.n ≤ a) && decide (((endsL g.es).length : Int) ≤ b)))
theorem small_ok (g : G) (a b : Int) : ACall Tryz.prog 84 [tG g, tint a, tint b] (tbool (smallB g a b)) := by
  refine ACall.of_body Tryz.func84 rfl (by kernel_rfl) ?_
  simp only [entry, Tryz.ntmps84, tG, tint]
  refine zU ?_
  by_cases hl : g.es.length ≤ 40
  · by_cases hc : checkG g = 0
    · have hs := sm_of (g := g) (by omega) hc
      have e : smallB g a b = (decide (g.n ≤ a) && decide (((endsL g.es).length : Int) ≤ b)) := by unfold smallB; rw [decide_eq_true hl, hc, Bool.true_and, show decide ((0 : Int) ≠ 0) = false by decide, Bool.false_or]
      rw [e]
      by_cases hn : g.n ≤ a
      · rw [decide_eq_true hn, Bool.true_and]
        repeat' (first|((first|(refine zT ?_;intro K' hK')|(refine zG ?_ ?_<;>(try refine zH ?_)<;>intro hguard<;>(try exact zX)<;>try intro K' hK'))<;>((try simp +contextual only [go_sem, eRows_len, hc, hn]);(repeat' first|(with_reducible refine hK' _ _ ?_;clear hK' K')|((with_reducible first|refine zL (c:=CheckR_ok g (by omega)) (q:=?_)|refine zK (SizeR_ok g hs.s hs.es hs.m) ?_);try simp +contextual only [go_sem, eRows_len, hc, hn])|exact zY|with_reducible refine And.intro ?_ ?_|(with_reducible intro hpath;try exact zP)|(refine hK' _ _ ?_;clear hK' K')|fail);try refine zS ?_))|(refine zE ?_;refine hK _ _ ?_;clear hK K)|(refine zN ?_;try refine zS ?_)|refine zA ?_|(refine zB ?_;intro K hK)|(refine zC ?_ ?_<;>(try refine zH ?_)<;>intro hcond<;>try exact zX)|fail)
        simp [Rets, aret, Blk.cells, ty, Tryz.results84, ares, toT1, toT, borrow, borrow0, capCell, toTree0, tbool]
      · rw [decide_eq_false hn, Bool.false_and]
        repeat' (first|((first|(refine zT ?_;intro K' hK')|(refine zG ?_ ?_<;>(try refine zH ?_)<;>intro hguard<;>(try exact zX)<;>try intro K' hK'))<;>((try simp +contextual only [go_sem, eRows_len, hc, hn]);(repeat' first|(with_reducible refine hK' _ _ ?_;clear hK' K')|((with_reducible first|refine zL (c:=CheckR_ok g (by omega)) (q:=?_)|refine zK (SizeR_ok g hs.s hs.es hs.m) ?_);try simp +contextual only [go_sem, eRows_len, hc, hn])|exact zY|with_reducible refine And.intro ?_ ?_|(with_reducible intro hpath;try exact zP)|(refine hK' _ _ ?_;clear hK' K')|fail);try refine zS ?_))|(refine zE ?_;refine hK _ _ ?_;clear hK K)|(refine zN ?_;try refine zS ?_)|refine zA ?_|(refine zB ?_;intro K hK)|(refine zC ?_ ?_<;>(try refine zH ?_)<;>intro hcond<;>try exact zX)|fail)
        simp [Rets, aret, Blk.cells, ty, Tryz.results84, ares, toT1, toT, borrow, borrow0, capCell, toTree0, tbool]
    ·
      repeat' (first|((first|(refine zT ?_;intro K' hK')|(refine zG ?_ ?_<;>(try refine zH ?_)<;>intro hguard<;>(try exact zX)<;>try intro K' hK'))<;>((try simp +contextual only [go_sem, eRows_len]);(repeat' first|(with_reducible refine hK' _ _ ?_;clear hK' K')|(with_reducible refine zL (c:=CheckR_ok g (by omega)) (q:=?_);try simp +contextual only [go_sem, eRows_len])|exact zY|with_reducible refine And.intro ?_ ?_|(with_reducible intro hpath;try exact zP)|(refine hK' _ _ ?_;clear hK' K')|fail);try refine zS ?_))|(refine zE ?_;refine hK _ _ ?_;clear hK K)|(refine zN ?_;try refine zS ?_)|refine zA ?_|(refine zB ?_;intro K hK)|(refine zC ?_ ?_<;>(try refine zH ?_)<;>intro hcond<;>try exact zX)|fail)
      have e : smallB g a b = true := by unfold smallB; rw [decide_eq_true hl, decide_eq_true (show checkG g ≠ 0 from hc)]; rfl
      simp [Rets, aret, Blk.cells, ty, Tryz.results84, ares, toT1, toT, borrow, borrow0, capCell, toTree0, tbool, e]
  ·
    refine zR (zc @eRows_len trivial) trivial trivial ?_
    have e : smallB g a b = false := by unfold smallB; rw [decide_eq_false hl]; rfl
    simp [Rets, aret, Blk.cells, ty, Tryz.results84, ares, toT1, toT, borrow, borrow0, capCell, toTree0, tbool, e]
theorem FewG_ok (g : G) : ACall Tryz.prog 46 [tG g] (tbool (smallB g 6 9)) := by
  have h := small_ok g 6 9
  generalize smallB g 6 9 = b at *
  obtain ⟨n, es⟩ := g
  refine ACall.of_body Tryz.func46 rfl (by kernel_rfl) ?_
  simp only [entry, Tryz.ntmps46, tG]
  refine zU ?_
  refine zR trivial (zc h trivial) trivial ?_
  simp [Rets, aret, Blk.cells, ty, Tryz.results46, ares, toT1, toT, borrow, borrow0, capCell, toTree0, tbool]
def fewR (r : R) : Bool := smallB r.g 6 9 && (decide (r.ar.length ≤ 20) && r.ar.all fun l => decide (l.length ≤ 40))
theorem FewR_ok (r : R) : ACall Tryz.prog 11 [tR r] (tbool (fewR r)) := by
  have hG := FewG_ok r.g
  unfold fewR
  obtain ⟨n, es, ar⟩ := r
  simp only [R.g] at hG ⊢
  generalize smallB ⟨n, es⟩ 6 9 = b at *
  refine ACall.of_body Tryz.func11 rfl (by kernel_rfl) ?_
  simp only [entry, Tryz.ntmps11, tR]
  refine zU ?_
  cases b with
  | false =>
    rw [Bool.false_and]
    refine zR trivial (zc hG trivial) trivial ?_
    simp [Rets, aret, Blk.cells, ty, Tryz.results11, ares, toT1, toT, borrow, borrow0, capCell, toTree0, tbool]
  | true =>
    rw [Bool.true_and]
    by_cases hl : ar.length ≤ 20
    case neg =>
      have hlI : 20 < (ar.length : Int) := by omega
      rw [decide_eq_false hl, Bool.false_and]
      refine zR (zc @llRows_len (zc @hlI trivial)) (zc hG trivial) trivial ?_
      simp [Rets, aret, Blk.cells, ty, Tryz.results11, ares, toT1, toT, borrow, borrow0, capCell, toTree0, tbool]
    have hlI : ¬ (20 < (ar.length : Int)) := by omega
    rw [decide_eq_true hl, Bool.true_and]
    refine zR (zc @llRows_len (zc @hlI trivial)) (zc hG trivial) trivial ?_
    refine AWp.loopS (α:=Nat) 28 (fun i=>[(1,.c (.ptr 0 0)),(3,.c (.int .i64 (i : Int)))]) (fun i=>[.box [.int .i64 n, .slice (eRows es) .none, .slice (llRows ar) .none]]) (fun i=>i ≤ ar.length ∧ ∀ k l, k < i → ar[k]? = some l → l.length ≤ 40) (fun i=>ar.length - i) (0) (hk:=Weak.headL 1 28 [1, 3] zW) (h0:=?_) (round:=fun i hI=>?_)
    · exact ⟨Nat.zero_le _, fun k l hk => absurd hk (Nat.not_lt_zero _)⟩
    · obtain ⟨hi, hI2⟩ := hI
      by_cases hlt : i < ar.length
      · have hltI : (i : Int) < ar.length := by omega
        have e0 := List.getElem?_eq_getElem hlt
        have e1 := llRows_get e0
        generalize hx : ar[i] = l at *
        by_cases hll : l.length ≤ 40
        · have hllI : ¬ (40 < (l.length : Int)) := by omega
          refine zR (zc @hltI (zc @llRows_len (zc @iRows_len (zc @e1 (zc @hllI trivial))))) trivial trivial ?_
          refine ⟨i + 1,Weak.headN 1 28 [1, 3] zW,?_,?_⟩
          · refine ⟨hlt, fun k m hk hm => ?_⟩
            by_cases e : k = i
            · subst e; rw [e0] at hm; cases hm; exact hll
            · exact hI2 k m (by omega) hm
          · omega
        · have hllI : 40 < (l.length : Int) := by omega
          have e : (ar.all fun l => decide (l.length ≤ 40)) = false := by
            rw [← Bool.not_eq_true, List.all_eq_true]
            intro h
            have := h l (List.mem_of_getElem? e0)
            exact hll (by simpa using this)
          rw [e]
          refine zR (zc @hltI (zc @llRows_len (zc @iRows_len (zc @e1 (zc @hllI trivial))))) trivial trivial ?_
          simp [Rets, aret, Blk.cells, ty, Tryz.results11, ares, toT1, toT, borrow, borrow0, capCell, toTree0, tbool]
      · have e : (ar.all fun l => decide (l.length ≤ 40)) = true := by
          rw [List.all_eq_true]
          intro l hl2
          obtain ⟨k, hk, rfl⟩ := List.mem_iff_getElem.1 hl2
          exact decide_eq_true (hI2 k _ (by omega) (List.getElem?_eq_getElem hk))
        rw [e]
        have hnl : ¬ ((i : Int) < ar.length) := by omega
        refine zR (zc @hnl (zc @llRows_len trivial)) trivial trivial ?_
        simp [Rets, aret, Blk.cells, ty, Tryz.results11, ares, toT1, toT, borrow, borrow0, capCell, toTree0, tbool]
theorem rsm_of {r : R} (h : fewR r = true) : RSm r := by
  unfold fewR smallB at h
  simp only [Bool.and_eq_true, decide_eq_true_eq, List.all_eq_true] at h
  exact ⟨h.1.1, by omega, fun l hl => by have := h.2.2 l hl; omega⟩
end Go.Proofs.YtfkegnhpihoncaaGreat
