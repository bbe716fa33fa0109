/- A part of the proof: contracts of functions of the program, and plain lemmas. -/
import Derived.Test.YtfkegnhpihoncaaGreatPart06
import Derived.Test.YtfkegnhpihoncaaGreatPart08
import Derived.Test.YtfkegnhpihoncaaGreatLayerC
import Derived.Test.YtfkegnhpihoncaaGreatPart02
import Derived.Test.YtfkegnhpihoncaaGreatSpOpen
import Derived.Test.YtfkegnhpihoncaaGreatRows
import Derived.WalkKit
import Derived.ProofKit
import Derived.OpenShut
import Derived.ShutString
import Derived.ChangeOld
import Derived.Below
import Derived.Lib.SmallJoins
import Derived.Test.YtfkegnhpihoncaaGreatPart04
set_option linter.all false
namespace Go.Proofs.YtfkegnhpihoncaaGreat
open Go.Sp
set_option linter.unusedSimpArgs false
set_option linter.unusedVariables false
set_option maxHeartbeats 4000000
set_option maxRecDepth 100000
def smallB (g : G) (a b : Int) : Bool := decide (g.es.length ≤ 40) && (decide (checkG g ≠ 0) || (decide (g.n ≤ a) && decide (((endsL g.es).length : Int) ≤ b)))
theorem small_ok (g : G) (a b : Int) : ACall Tryz.prog 84 [tG g, tint a, tint b] (tbool (smallB g a b)) := by
  refine ACall.of_body Tryz.func84 rfl (by kernel_rfl) ?_
  simp only [entry, Tryz.ntmps84, tG, tint]
  refine zU ?_
  by_cases hl : g.es.length ≤ 40
  · by_cases hc : checkG g = 0
    · have hs := sm_of (g := g) (by omega) hc
      have e : smallB g a b = (decide (g.n ≤ a) && decide (((endsL g.es).length : Int) ≤ b)) := by unfold smallB; rw [decide_eq_true hl, hc, Bool.true_and, show decide ((0 : Int) ≠ 0) = false by decide, Bool.false_or]
      rw [e]
      by_cases hn : g.n ≤ a
      · rw [decide_eq_true hn, Bool.true_and]
        repeat' (first|((first|(refine zT ?_;intro K' hK')|(refine zG ?_ ?_<;>(try refine zH ?_)<;>intro hguard<;>(try exact zX)<;>try intro K' hK'))<;>((try simp +contextual only [go_sem, eRows_len, hc, hn]);(repeat' first|(with_reducible refine hK' _ _ ?_;clear hK' K')|((with_reducible first|refine zL (c:=CheckR_ok g (by omega)) (q:=?_)|refine zK (SizeR_ok g hs.s hs.es hs.m) ?_);try simp +contextual only [go_sem, eRows_len, hc, hn])|exact zY|with_reducible refine And.intro ?_ ?_|(with_reducible intro hpath;try exact zP)|(refine hK' _ _ ?_;clear hK' K')|fail);try refine zS ?_))|(refine zE ?_;refine hK _ _ ?_;clear hK K)|(refine zN ?_;try refine zS ?_)|refine zA ?_|(refine zB ?_;intro K hK)|(refine zC ?_ ?_<;>(try refine zH ?_)<;>intro hcond<;>try exact zX)|fail)
        simp [Rets, aret, Blk.cells, ty, Tryz.results84, ares, toT1, toT, borrow, borrow0, capCell, toTree0, tbool]
      · rw [decide_eq_false hn, Bool.false_and]
        repeat' (first|((first|(refine zT ?_;intro K' hK')|(refine zG ?_ ?_<;>(try refine zH ?_)<;>intro hguard<;>(try exact zX)<;>try intro K' hK'))<;>((try simp +contextual only [go_sem, eRows_len, hc, hn]);(repeat' first|(with_reducible refine hK' _ _ ?_;clear hK' K')|((with_reducible first|refine zL (c:=CheckR_ok g (by omega)) (q:=?_)|refine zK (SizeR_ok g hs.s hs.es hs.m) ?_);try simp +contextual only [go_sem, eRows_len, hc, hn])|exact zY|with_reducible refine And.intro ?_ ?_|(with_reducible intro hpath;try exact zP)|(refine hK' _ _ ?_;clear hK' K')|fail);try refine zS ?_))|(refine zE ?_;refine hK _ _ ?_;clear hK K)|(refine zN ?_;try refine zS ?_)|refine zA ?_|(refine zB ?_;intro K hK)|(refine zC ?_ ?_<;>(try refine zH ?_)<;>intro hcond<;>try exact zX)|fail)
        simp [Rets, aret, Blk.cells, ty, Tryz.results84, ares, toT1, toT, borrow, borrow0, capCell, toTree0, tbool]
    ·
      repeat' (first|((first|(refine zT ?_;intro K' hK')|(refine zG ?_ ?_<;>(try refine zH ?_)<;>intro hguard<;>(try exact zX)<;>try intro K' hK'))<;>((try simp +contextual only [go_sem, eRows_len]);(repeat' first|(with_reducible refine hK' _ _ ?_;clear hK' K')|(with_reducible refine zL (c:=CheckR_ok g (by omega)) (q:=?_);try simp +contextual only [go_sem, eRows_len])|exact zY|with_reducible refine And.intro ?_ ?_|(with_reducible intro hpath;try exact zP)|(refine hK' _ _ ?_;clear hK' K')|fail);try refine zS ?_))|(refine zE ?_;refine hK _ _ ?_;clear hK K)|(refine zN ?_;try refine zS ?_)|refine zA ?_|(refine zB ?_;intro K hK)|(refine zC ?_ ?_<;>(try refine zH ?_)<;>intro hcond<;>try exact zX)|fail)
      have e : smallB g a b = true := by unfold smallB; rw [decide_eq_true hl, decide_eq_true (show checkG g ≠ 0 from hc)]; rfl
      simp [Rets, aret, Blk.cells, ty, Tryz.results84, ares, toT1, toT, borrow, borrow0, capCell, toTree0, tbool, e]
  ·
    repeat' (first|((first|(refine zT ?_;intro K' hK')|(refine zG ?_ ?_<;>(try refine zH ?_)<;>intro hguard<;>(try exact zX)<;>try intro K' hK'))<;>((try simp +contextual only [go_sem, eRows_len]);(repeat' first|(with_reducible refine hK' _ _ ?_;clear hK' K')|exact zY|with_reducible refine And.intro ?_ ?_|(with_reducible intro hpath;try exact zP)|(refine hK' _ _ ?_;clear hK' K')|fail);try refine zS ?_))|(refine zE ?_;refine hK _ _ ?_;clear hK K)|(refine zN ?_;try refine zS ?_)|refine zA ?_|(refine zB ?_;intro K hK)|(refine zC ?_ ?_<;>(try refine zH ?_)<;>intro hcond<;>try exact zX)|fail)
    have e : smallB g a b = false := by unfold smallB; rw [decide_eq_false hl]; rfl
    simp [Rets, aret, Blk.cells, ty, Tryz.results84, ares, toT1, toT, borrow, borrow0, capCell, toTree0, tbool, e]
theorem FewG_ok (g : G) : ACall Tryz.prog 46 [tG g] (tbool (smallB g 6 9)) := by
  have h := small_ok g 6 9
  generalize smallB g 6 9 = b at *
  obtain ⟨n, es⟩ := g
  refine ACall.of_body Tryz.func46 rfl (by kernel_rfl) ?_
  simp only [entry, Tryz.ntmps46, tG]
  refine zU ?_
  repeat' (first|((first|(refine zT ?_;intro K' hK')|(refine zG ?_ ?_<;>(try refine zH ?_)<;>intro hguard<;>(try exact zX)<;>try intro K' hK'))<;>((try simp +contextual only [go_sem]);(repeat' first|(with_reducible refine hK' _ _ ?_;clear hK' K')|(with_reducible refine zK h ?_;try simp +contextual only [go_sem])|exact zY|with_reducible refine And.intro ?_ ?_|(with_reducible intro hpath;try exact zP)|(refine hK' _ _ ?_;clear hK' K')|fail);try refine zS ?_))|(refine zE ?_;refine hK _ _ ?_;clear hK K)|(refine zN ?_;try refine zS ?_)|refine zA ?_|(refine zB ?_;intro K hK)|(refine zC ?_ ?_<;>(try refine zH ?_)<;>intro hcond<;>try exact zX)|fail)
  simp [Rets, aret, Blk.cells, ty, Tryz.results46, ares, toT1, toT, borrow, borrow0, capCell, toTree0, tbool]
def fewR (r : R) : Bool := smallB r.g 6 9 && (decide (r.ar.length ≤ 20) && r.ar.all fun l => decide (l.length ≤ 40))
theorem FewR_ok (r : R) : ACall Tryz.prog 11 [tR r] (tbool (fewR r)) := by
  have hG := FewG_ok r.g
  unfold fewR
  obtain ⟨n, es, ar⟩ := r
  simp only [R.g] at hG ⊢
  generalize smallB ⟨n, es⟩ 6 9 = b at *
  refine ACall.of_body Tryz.func11 rfl (by kernel_rfl) ?_
  simp only [entry, Tryz.ntmps11, tR]
  refine zU ?_
  cases b with
  | false =>
    rw [Bool.false_and]
    repeat' (first|((first|(refine zT ?_;intro K' hK')|(refine zG ?_ ?_<;>(try refine zH ?_)<;>intro hguard<;>(try exact zX)<;>try intro K' hK'))<;>((try simp +contextual only [go_sem]);(repeat' first|(with_reducible refine hK' _ _ ?_;clear hK' K')|(with_reducible refine zK hG ?_;try simp +contextual only [go_sem])|exact zY|with_reducible refine And.intro ?_ ?_|(with_reducible intro hpath;try exact zP)|(refine hK' _ _ ?_;clear hK' K')|fail);try refine zS ?_))|(refine zE ?_;refine hK _ _ ?_;clear hK K)|(refine zN ?_;try refine zS ?_)|refine zA ?_|(refine zB ?_;intro K hK)|(refine zC ?_ ?_<;>(try refine zH ?_)<;>intro hcond<;>try exact zX)|fail)
    simp [Rets, aret, Blk.cells, ty, Tryz.results11, ares, toT1, toT, borrow, borrow0, capCell, toTree0, tbool]
  | true =>
    rw [Bool.true_and]
    by_cases hl : ar.length ≤ 20
    case neg =>
      have hlI : 20 < (ar.length : Int) := by omega
      rw [decide_eq_false hl, Bool.false_and]
      repeat' (first|((first|(refine zT ?_;intro K' hK')|(refine zG ?_ ?_<;>(try refine zH ?_)<;>intro hguard<;>(try exact zX)<;>try intro K' hK'))<;>((try simp +contextual only [go_sem, llRows_len, hlI]);(repeat' first|(with_reducible refine hK' _ _ ?_;clear hK' K')|(with_reducible refine zK hG ?_;try simp +contextual only [go_sem, llRows_len, hlI])|exact zY|with_reducible refine And.intro ?_ ?_|(with_reducible intro hpath;try exact zP)|(refine hK' _ _ ?_;clear hK' K')|fail);try refine zS ?_))|(refine zE ?_;refine hK _ _ ?_;clear hK K)|(refine zN ?_;try refine zS ?_)|refine zA ?_|(refine zB ?_;intro K hK)|(refine zC ?_ ?_<;>(try refine zH ?_)<;>intro hcond<;>try exact zX)|fail)
      simp [Rets, aret, Blk.cells, ty, Tryz.results11, ares, toT1, toT, borrow, borrow0, capCell, toTree0, tbool]
    have hlI : ¬ (20 < (ar.length : Int)) := by omega
    rw [decide_eq_true hl, Bool.true_and]
    repeat' (first|((first|(refine zT ?_;intro K' hK')|(refine zG ?_ ?_<;>(try refine zH ?_)<;>intro hguard<;>(try exact zX)<;>try intro K' hK'))<;>((try simp +contextual only [go_sem, llRows_len, hlI]);(repeat' first|(with_reducible refine hK' _ _ ?_;clear hK' K')|(with_reducible refine zK hG ?_;try simp +contextual only [go_sem, llRows_len, hlI])|exact zY|with_reducible refine And.intro ?_ ?_|(with_reducible intro hpath;try exact zP)|(refine hK' _ _ ?_;clear hK' K')|fail);try refine zS ?_))|(refine zE ?_;refine hK _ _ ?_;clear hK K)|(refine zN ?_;try refine zS ?_)|refine zA ?_|(refine zB ?_;intro K hK)|(refine zC ?_ ?_<;>(try refine zH ?_)<;>intro hcond<;>try exact zX)|fail)
    refine AWp.loopx (α:=Nat) (fun i=>(⟨.c .any :: .c (.ptr 0 0) :: .c .any :: .c (.int .i64 (i : Int)) :: .c .any :: .c .any :: .c .any :: .c .any :: .c .any :: .c .any :: .c .any :: .c .any :: .c .any :: .c .any :: .c .any :: .c .any :: .c .any :: .c .any :: .c .any :: .c .any :: .c .any :: .c .any :: .c .any :: .c .any :: .c .any :: .c .any :: .c .any :: .c .any :: [],[.box [.int .i64 n, .slice (eRows es) .none, .slice (llRows ar) .none]]⟩:St)) (fun i=>i ≤ ar.length ∧ ∀ k l, k < i → ar[k]? = some l → l.length ≤ 40) (fun i=>ar.length - i) (0) (Weak.headL 1 28 [1, 3] zW) ?_ (fun i hI=>?_)
    · exact ⟨Nat.zero_le _, fun k l hk => absurd hk (Nat.not_lt_zero _)⟩
    · obtain ⟨hi, hI2⟩ := hI
      by_cases hlt : i < ar.length
      · have hltI : (i : Int) < ar.length := by omega
        have e0 := List.getElem?_eq_getElem hlt
        have e1 := llRows_get e0
        generalize hx : ar[i] = l at *
        by_cases hll : l.length ≤ 40
        · have hllI : ¬ (40 < (l.length : Int)) := by omega
          repeat' (first|((first|(refine zT ?_;intro K' hK')|(refine zG ?_ ?_<;>(try refine zH ?_)<;>intro hguard<;>(try exact zX)<;>try intro K' hK'))<;>((try simp +contextual only [go_sem, hltI, llRows_len, iRows_len, e1, Int.toNat_natCast, hllI]);(repeat' first|(with_reducible refine hK' _ _ ?_;clear hK' K')|exact zY|with_reducible refine And.intro ?_ ?_|(with_reducible intro hpath;try exact zP)|(refine hK' _ _ ?_;clear hK' K')|fail);try refine zS ?_))|(refine zE ?_;refine hK _ _ ?_;clear hK K)|(refine zN ?_;try refine zS ?_)|refine zA ?_|(refine zB ?_;intro K hK)|(refine zC ?_ ?_<;>(try refine zH ?_)<;>intro hcond<;>try exact zX)|fail)
          refine ⟨i + 1,Weak.headN 1 28 [1, 3] zW,?_,?_⟩
          · refine ⟨hlt, fun k m hk hm => ?_⟩
            by_cases e : k = i
            · subst e; rw [e0] at hm; cases hm; exact hll
            · exact hI2 k m (by omega) hm
          · omega
        · have hllI : 40 < (l.length : Int) := by omega
          have e : (ar.all fun l => decide (l.length ≤ 40)) = false := by
            rw [← Bool.not_eq_true, List.all_eq_true]
            intro h
            have := h l (List.mem_of_getElem? e0)
            exact hll (by simpa using this)
          rw [e]
          repeat' (first|((first|(refine zT ?_;intro K' hK')|(refine zG ?_ ?_<;>(try refine zH ?_)<;>intro hguard<;>(try exact zX)<;>try intro K' hK'))<;>((try simp +contextual only [go_sem, hltI, llRows_len, iRows_len, e1, Int.toNat_natCast, hllI]);(repeat' first|(with_reducible refine hK' _ _ ?_;clear hK' K')|exact zY|with_reducible refine And.intro ?_ ?_|(with_reducible intro hpath;try exact zP)|(refine hK' _ _ ?_;clear hK' K')|fail);try refine zS ?_))|(refine zE ?_;refine hK _ _ ?_;clear hK K)|(refine zN ?_;try refine zS ?_)|refine zA ?_|(refine zB ?_;intro K hK)|(refine zC ?_ ?_<;>(try refine zH ?_)<;>intro hcond<;>try exact zX)|fail)
          simp [Rets, aret, Blk.cells, ty, Tryz.results11, ares, toT1, toT, borrow, borrow0, capCell, toTree0, tbool]
      · have e : (ar.all fun l => decide (l.length ≤ 40)) = true := by
          rw [List.all_eq_true]
          intro l hl2
          obtain ⟨k, hk, rfl⟩ := List.mem_iff_getElem.1 hl2
          exact decide_eq_true (hI2 k _ (by omega) (List.getElem?_eq_getElem hk))
        rw [e]
        have hnl : ¬ ((i : Int) < ar.length) := by omega
        repeat' (first|((first|(refine zT ?_;intro K' hK')|(refine zG ?_ ?_<;>(try refine zH ?_)<;>intro hguard<;>(try exact zX)<;>try intro K' hK'))<;>((try simp +contextual only [go_sem, hnl, llRows_len]);(repeat' first|(with_reducible refine hK' _ _ ?_;clear hK' K')|exact zY|with_reducible refine And.intro ?_ ?_|(with_reducible intro hpath;try exact zP)|(refine hK' _ _ ?_;clear hK' K')|fail);try refine zS ?_))|(refine zE ?_;refine hK _ _ ?_;clear hK K)|(refine zN ?_;try refine zS ?_)|refine zA ?_|(refine zB ?_;intro K hK)|(refine zC ?_ ?_<;>(try refine zH ?_)<;>intro hcond<;>try exact zX)|fail)
        simp [Rets, aret, Blk.cells, ty, Tryz.results11, ares, toT1, toT, borrow, borrow0, capCell, toTree0, tbool]
theorem rsm_of {r : R} (h : fewR r = true) : RSm r := by
  unfold fewR smallB at h
  simp only [Bool.and_eq_true, decide_eq_true_eq, List.all_eq_true] at h
  exact ⟨h.1.1, by omega, fun l hl => by have := h.2.2 l hl; omega⟩
theorem Follows_ok (r s : R) (h : Int) : ACall Tryz.prog 7 [tR r, tR s, tint h] (tbool true) := by
  have hA := awake44_ok
  have f1 := FewR_ok r
  have f2 := FewR_ok s
  by_cases hr : fewR r = true
  case neg =>
    simp only [Bool.not_eq_true] at hr
    rw [hr] at f1
    obtain ⟨n, es, ar⟩ := r
    obtain ⟨n', es', ar'⟩ := s
    refine ACall.of_body Tryz.func7 rfl (by kernel_rfl) ?_
    simp only [entry, Tryz.ntmps7, tR, tint]
    refine zU ?_
    repeat' (first|((first|(refine zT ?_;intro K' hK')|(refine zG ?_ ?_<;>(try refine zH ?_)<;>intro hguard<;>(try exact zX)<;>try intro K' hK'))<;>((try simp +contextual only [go_sem]);(repeat' first|(with_reducible refine hK' _ _ ?_;clear hK' K')|((with_reducible first|refine zK f1 ?_|refine zK hA ?_);try simp +contextual only [go_sem])|exact zY|with_reducible refine And.intro ?_ ?_|(with_reducible intro hpath;try exact zP)|(refine hK' _ _ ?_;clear hK' K')|fail);try refine zS ?_))|(refine zE ?_;refine hK _ _ ?_;clear hK K)|(refine zN ?_;try refine zS ?_)|refine zA ?_|(refine zB ?_;intro K hK)|(refine zC ?_ ?_<;>(try refine zH ?_)<;>intro hcond<;>try exact zX)|fail)
    simp [Rets, aret, Blk.cells, ty, Tryz.results7, ares, toT1, toT, borrow, borrow0, capCell, toTree0, tbool]
  rw [hr] at f1
  by_cases hs : fewR s = true
  case neg =>
    simp only [Bool.not_eq_true] at hs
    rw [hs] at f2
    obtain ⟨n, es, ar⟩ := r
    obtain ⟨n', es', ar'⟩ := s
    refine ACall.of_body Tryz.func7 rfl (by kernel_rfl) ?_
    simp only [entry, Tryz.ntmps7, tR, tint]
    refine zU ?_
    repeat' (first|((first|(refine zT ?_;intro K' hK')|(refine zG ?_ ?_<;>(try refine zH ?_)<;>intro hguard<;>(try exact zX)<;>try intro K' hK'))<;>((try simp +contextual only [go_sem]);(repeat' first|(with_reducible refine hK' _ _ ?_;clear hK' K')|((with_reducible first|refine zK f1 ?_|refine zK f2 ?_|refine zK hA ?_);try simp +contextual only [go_sem])|exact zY|with_reducible refine And.intro ?_ ?_|(with_reducible intro hpath;try exact zP)|(refine hK' _ _ ?_;clear hK' K')|fail);try refine zS ?_))|(refine zE ?_;refine hK _ _ ?_;clear hK K)|(refine zN ?_;try refine zS ?_)|refine zA ?_|(refine zB ?_;intro K hK)|(refine zC ?_ ?_<;>(try refine zH ?_)<;>intro hcond<;>try exact zX)|fail)
    simp [Rets, aret, Blk.cells, ty, Tryz.results7, ares, toT1, toT, borrow, borrow0, capCell, toTree0, tbool]
  rw [hs] at f2
  have hAt := rAt_ok r (rsm_of hr) h
  have hNx := rNext_ok r (rsm_of hr) h
  have hRn := refNext_ok r (rsm_of hr) h
  have s1 := rSame_ok r s (rsm_of hr) (rsm_of hs)
  have s2 := SameRR_ok r s (rsm_of hr) (rsm_of hs)
  have s3 := rSame_ok r r (rsm_of hr) (rsm_of hr)
  rw [(sameR_iff r r).2 rfl] at s3
  generalize sameR r s = b at *
  generalize (if halfE r h ≠ 0 then 0 else atL (endsL r.es) h.toNat) = u at *
  generalize (if halfE r h ≠ 0 then 0 else nextR (endsL r.es) r.ar h.toNat) = v at *
  generalize halfE r h = E at *
  clear hr hs
  obtain ⟨n, es, ar⟩ := r
  obtain ⟨n', es', ar'⟩ := s
  refine ACall.of_body Tryz.func7 rfl (by kernel_rfl) ?_
  simp only [entry, Tryz.ntmps7, tR, tint]
  refine zU ?_
  cases b
  ·
    repeat' (first|((first|(refine zT ?_;intro K' hK')|(refine zG ?_ ?_<;>(try refine zH ?_)<;>intro hguard<;>(try exact zX)<;>try intro K' hK'))<;>((try simp +contextual only [go_sem]);(repeat' first|(with_reducible refine hK' _ _ ?_;clear hK' K')|((with_reducible first|refine zK f1 ?_|refine zK f2 ?_|refine zK hA ?_|refine zK hAt ?_|refine zK hNx ?_|refine zK hRn ?_|refine zK s1 ?_|refine zK s2 ?_|refine zK s3 ?_);try simp +contextual only [go_sem])|exact zY|with_reducible refine And.intro ?_ ?_|(with_reducible intro hpath;try exact zP)|(refine hK' _ _ ?_;clear hK' K')|fail);try refine zS ?_))|(refine zE ?_;refine hK _ _ ?_;clear hK K)|(refine zN ?_;try refine zS ?_)|refine zA ?_|(refine zB ?_;intro K hK)|(refine zC ?_ ?_<;>(try refine zH ?_)<;>intro hcond<;>try exact zX)|fail)
    simp [Rets, aret, Blk.cells, ty, Tryz.results7, ares, toT1, toT, borrow, borrow0, capCell, toTree0, tbool]
  ·
    repeat' (first|((first|(refine zT ?_;intro K' hK')|(refine zG ?_ ?_<;>(try refine zH ?_)<;>intro hguard<;>(try exact zX)<;>try intro K' hK'))<;>((try simp +contextual only [go_sem]);(repeat' first|(with_reducible refine hK' _ _ ?_;clear hK' K')|((with_reducible first|refine zK f1 ?_|refine zK f2 ?_|refine zK hA ?_|refine zK hAt ?_|refine zK hNx ?_|refine zK hRn ?_|refine zK s1 ?_|refine zK s2 ?_|refine zK s3 ?_);try simp +contextual only [go_sem])|exact zY|with_reducible refine And.intro ?_ ?_|(with_reducible intro hpath;try exact zP)|(refine hK' _ _ ?_;clear hK' K')|fail);try refine zS ?_))|(refine zE ?_;refine hK _ _ ?_;clear hK K)|(refine zN ?_;try refine zS ?_)|refine zA ?_|(refine zB ?_;intro K hK)|(refine zC ?_ ?_<;>(try refine zH ?_)<;>intro hcond<;>try exact zX)|fail)
    simp [Rets, aret, Blk.cells, ty, Tryz.results7, ares, toT1, toT, borrow, borrow0, capCell, toTree0, tbool]
end Go.Proofs.YtfkegnhpihoncaaGreat
set_option linter.all false
namespace Go.Proofs.YtfkegnhpihoncaaGreat
open Go.ChangeShapes Go.WideShapes Go.ChangeAt Go.RowKit Go.Joins Go.Sp
set_option linter.unusedVariables false
set_option maxRecDepth 100000
theorem own : ownKnob Tryz.prog.godebug = none := by kernel_rfl
theorem laidOut : laidOutB Tryz.prog = true := by kernel_rfl
theorem edgeCells : IntCells Tryz.prog 76 3 :=
  intCells_struct Tryz.underlying76 (by kernel_rfl) (fun i f hf => by
    match i, hf with
    | 0, hf => obtain rfl := Option.some.inj hf; exact ⟨Tryz.underlying3, by kernel_rfl, rfl⟩
    | 1, hf => obtain rfl := Option.some.inj hf; exact ⟨Tryz.underlying3, by kernel_rfl, rfl⟩
    | 2, hf => obtain rfl := Option.some.inj hf; exact ⟨Tryz.underlying3, by kernel_rfl, rfl⟩
    | n + 3, hf => simp at hf)
def toE (r : List Int) : E := ⟨r.getD 0 0, r.getD 1 0, r.getD 2 0⟩
theorem eRows_of {rows : List (List Int)} (h : ∀ r, r ∈ rows → r.length = 3) : rows.map tInts = eRows (rows.map toE) := by
  simp only [eRows, List.map_map]
  refine List.map_congr_left fun r hr => ?_
  match r, h r hr with
  | [a, b, c], _ => rfl
theorem intCell : IntCells Tryz.prog 3 1 := intCells_int Tryz.underlying3 (by kernel_rfl)
end Go.Proofs.YtfkegnhpihoncaaGreat
set_option linter.all false
namespace Go.Proofs.YtfkegnhpihoncaaGreat
open Go.ChangeShapes Go.WideShapes Go.ChangeAt Go.RowKit Go.Joins Go.Sp
set_option linter.unusedVariables false
set_option maxRecDepth 100000
theorem open_ribbon {H : Type} {enc : TypeId × Value → H} {w : World} {r : Reach} {b0 base : Nat} {spare : Nat → Bool} {held : Bool} {v : Value} {d : DataW H} {p : List MemPlace}
    (hv : Value.okWide Tryz.prog w r b0 27 v) (h : DataW.Trod enc Tryz.prog w base spare held 27 v d p) : ∃ x : R, TVRel (fun _ _ => True) w (tR x) v := by
  obtain ⟨cs, rfl, hsz⟩ := okWide_struct Tryz.underlying27 hv
  have hC : Tryz.prog.cellsOf 27 = 3 := by kernel_rfl
  have hC2 : Tryz.prog.cellsOf 24 = 2 := by kernel_rfl
  have hC1 : Tryz.prog.cellsOf 25 = 1 := by kernel_rfl
  have hC0 : Tryz.prog.cellsOf 3 = 1 := by kernel_rfl
  have hCe : Tryz.prog.cellsOf 22 = 1 := by kernel_rfl
  have hCi : Tryz.prog.cellsOf 40 = 1 := by kernel_rfl
  obtain ⟨c0, c1, c2, rfl⟩ := array3 (hsz.trans hC)
  obtain ⟨fuel, hf⟩ := h
  obtain ⟨xs, m, -, -, -, hx, hg⟩ := DataW.trod_struct Tryz.underlying27 hf
  have g0 : DataW.trod enc Tryz.prog w base spare held m 24 (([c0, c1, c2].drop 0).take (Tryz.prog.cellsOf 24)) = xs[0]? := hg 0 _ rfl
  have g1 : DataW.trod enc Tryz.prog w base spare held m 25 (([c0, c1, c2].drop 2).take (Tryz.prog.cellsOf 25)) = xs[1]? := hg 1 _ rfl
  have hx2 : xs.length = 2 := hx
  rw [List.getElem?_eq_getElem (by omega)] at g0 g1
  simp only [hC2, hC1, List.drop_zero, List.take_succ_cons, List.take_zero, List.drop_succ_cons, List.drop_zero] at g0 g1
  obtain ⟨ys, m', -, -, -, hy, hk⟩ := DataW.trod_struct Tryz.underlying24 g0
  have k0 : DataW.trod enc Tryz.prog w base spare held m' 3 (([c0, c1].drop 0).take (Tryz.prog.cellsOf 3)) = ys[0]? := hk 0 _ rfl
  have k1 : DataW.trod enc Tryz.prog w base spare held m' 22 (([c0, c1].drop 1).take (Tryz.prog.cellsOf 22)) = ys[1]? := hk 1 _ rfl
  have hy2 : ys.length = 2 := hy
  rw [List.getElem?_eq_getElem (by omega)] at k0 k1
  simp only [hC0, hCe, List.drop_zero, List.take_succ_cons, List.take_zero, List.drop_succ_cons] at k0 k1
  obtain ⟨n, hn, -, -⟩ := DataW.trod_int Tryz.underlying3 k0
  obtain rfl : c0 = .int .i64 n := by simpa using hn
  obtain ⟨rows, hr, -, ht⟩ := open_rows Tryz.underlying22 edgeCells (by decide) k1
  rw [eRows_of fun r hr' => (hr r hr').1] at ht
  obtain ⟨ls, -, hl⟩ := open_rows2 Tryz.underlying25 Tryz.underlying40 hCi intCell g1
  refine ⟨⟨n, rows.map toE, ls⟩, #[.int .i64 n, c1, c2], rfl, rfl, fun j c u hc hu => ?_⟩
  match j, hc, hu with
  | 0, hc, hu => simp at hc hu; subst hc hu; exact .int _ _
  | 1, hc, hu => simp at hc hu; subst hc hu; exact ht
  | 2, hc, hu => simp at hc hu; subst hc hu; exact hl
  | k + 3, hc, hu => simp at hc
end Go.Proofs.YtfkegnhpihoncaaGreat
