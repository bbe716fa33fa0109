/- A part of the proof: contracts of functions of the program, and plain lemmas. -/
import Derived.Test.YtfkegnhpihoncaaGreatPart25
import Derived.Test.YtfkegnhpihoncaaGreatPart26
import Derived.Test.YtfkegnhpihoncaaGreatPart08
import Derived.Test.YtfkegnhpihoncaaGreatLayerC
import Derived.Test.YtfkegnhpihoncaaGreatPart23
import Derived.Test.YtfkegnhpihoncaaGreatPart11
set_option linter.all false
namespace Go.Proofs.YtfkegnhpihoncaaGreat
open Go.Sp
set_option linter.unusedSimpArgs false
set_option linter.unusedVariables false
set_option maxHeartbeats 4000000
set_option maxRecDepth 100000
theorem bef_none {b : List Int} : befL [] b = decide (0 < b.length) := by cases b <;> simp [befL]
theorem bef_end {a : List Int} : befL a [] = false := by cases a <;> rfl
theorem Before_ok (a b : List Int) (ha : a.length < 2 ^ 40) (hb : b.length < 2 ^ 40) : ACall Tryz.prog 61 [tints a, tints b] (tbool (befL a b)) := by
  refine ACall.of_body Tryz.func61 rfl (by kernel_rfl) ?_
  simp only [entry, Tryz.ntmps61, tints]
  refine zU ?_
  refine zR trivial trivial trivial ?_
  refine AWp.loopS (α:=Nat) 41 (fun i=>[(0,.c (.slice (iRows a) .none)),(1,.c (.slice (iRows b) .none)),(5,.c (.int .i64 (i : Int)))]) (fun i=>[]) (fun i=>i ≤ a.length ∧ i ≤ b.length ∧ befL a b = befL (a.drop i) (b.drop i)) (fun i=>a.length - i) (0) (hk:=Weak.headL 0 41 [0, 1, 5] zW) (h0:=?_) (round:=fun i hI=>?_)
  · exact ⟨Nat.zero_le _, Nat.zero_le _, rfl⟩
  · obtain ⟨hi, hi2, hx⟩ := hI
    by_cases h1 : i < a.length
    · have h1I : (i : Int) < a.length := by omega
      by_cases h2 : i < b.length
      · have h2I : (i : Int) < b.length := by omega
        have e0 := List.getElem?_eq_getElem h1
        have e1 := iRows_get e0
        have f0 := List.getElem?_eq_getElem h2
        have f1 := iRows_get f0
        rw [List.drop_eq_getElem_cons h1, List.drop_eq_getElem_cons h2] at hx
        simp only [befL] at hx
        generalize a[i] = x at *
        generalize b[i] = y at *
        by_cases hxy : x = y
        · rw [if_pos hxy] at hx
          refine zR (zc @h1I (zc @h2I (zc @iRows_len (zc @e1 (zc @f1 (zc @hxy trivial)))))) trivial trivial ?_
          refine ⟨i + 1,Weak.headN 0 41 [0, 1, 5] zW,?_,?_⟩
          · exact ⟨h1, h2, hx⟩
          · omega
        · rw [if_neg hxy] at hx
          rw [hx]
          by_cases hlt : x < y
          · rw [decide_eq_true hlt]
            refine zR (zc @h1I (zc @h2I (zc @iRows_len (zc @e1 (zc @f1 (zc @hxy (zc @hlt trivial))))))) trivial trivial ?_
            simp [Rets, aret, Blk.cells, ty, Tryz.results61, ares, toT1, toT, borrow, borrow0, capCell, toTree0, tbool]
          · rw [decide_eq_false hlt]
            refine zR (zc @h1I (zc @h2I (zc @iRows_len (zc @e1 (zc @f1 (zc @hxy (zc @hlt trivial))))))) trivial trivial ?_
            simp [Rets, aret, Blk.cells, ty, Tryz.results61, ares, toT1, toT, borrow, borrow0, capCell, toTree0, tbool]
      · have h2I : ¬ ((i : Int) < b.length) := by omega
        have e : befL a b = false := by rw [hx, List.drop_eq_nil_of_le (show b.length ≤ i by omega), bef_end]
        have hab : ¬ ((a.length : Int) < b.length) := by omega
        rw [e]
        refine zR (zc @h1I (zc @h2I (zc @iRows_len (zc @hab trivial)))) trivial trivial ?_
        simp [Rets, aret, Blk.cells, ty, Tryz.results61, ares, toT1, toT, borrow, borrow0, capCell, toTree0, tbool]
    · have h1I : ¬ ((i : Int) < a.length) := by omega
      have ei : i = a.length := by omega
      have e : befL a b = decide (0 < (b.drop i).length) := by rw [hx, List.drop_eq_nil_of_le (show a.length ≤ i by omega), bef_none]
      rw [List.length_drop] at e
      rw [e]
      by_cases hab : (a.length : Int) < b.length
      · rw [decide_eq_true (by omega)]
        refine zR (zc @h1I (zc @iRows_len (zc @hab trivial))) trivial trivial ?_
        simp [Rets, aret, Blk.cells, ty, Tryz.results61, ares, toT1, toT, borrow, borrow0, capCell, toTree0, tbool]
      · rw [decide_eq_false (by omega)]
        refine zR (zc @h1I (zc @iRows_len (zc @hab trivial))) trivial trivial ?_
        simp [Rets, aret, Blk.cells, ty, Tryz.results61, ares, toT1, toT, borrow, borrow0, capCell, toTree0, tbool]
theorem llRows_take (l : List (List Int)) (i : Nat) : (llRows l).take i = llRows (l.take i) := by simp [llRows]
theorem llRows_drop (l : List (List Int)) (i : Nat) : (llRows l).drop i = llRows (l.drop i) := by simp [llRows]
theorem llRowsA_k' {A : List (List Int)} {x : List Int} {r : List Tree} (h : r ∈ llRows A ++ [[Tree.slice (iRows x)]]) : r.length = 1 := by
  rcases List.mem_append.1 h with h | h
  · exact llRows_k' h
  · rw [List.mem_singleton.1 h]; rfl
theorem Ordered_ok (l : List (List Int)) (hl : l.length < 2 ^ 30) (hll : ∀ x, x ∈ l → x.length < 2 ^ 40) : ACall Tryz.prog 24 [tlists l] (tlists (sortLL l)) := by
  have hz : sortLL ([] : List (List Int)) = [] := List.Perm.eq_nil (sortLL_perm [])
  refine ACall.of_body Tryz.func24 rfl (by kernel_rfl) ?_
  simp only [entry, Tryz.ntmps24, tlists]
  refine zU ?_
  repeat' ((fail_if_success (with_reducible refine AWp.atSeq 2 ?_));(fail_if_success (with_reducible refine AWp.atLast 2 ?_));first|((first|(refine zT ?_;intro K' hK')|(refine zG ?_ ?_<;>(try refine zH ?_)<;>intro hguard<;>(try exact zX)<;>try intro K' hK'))<;>((try simp +contextual only [go_sem]);(repeat' first|(with_reducible refine hK' _ _ ?_;clear hK' K')|exact zY|with_reducible refine And.intro ?_ ?_|(with_reducible intro hpath;try exact zP)|(refine hK' _ _ ?_;clear hK' K')|fail);try refine zS ?_))|(refine zE ?_;refine hK _ _ ?_;clear hK K)|(refine zN ?_;try refine zS ?_)|refine zA ?_|(refine zB ?_;intro K hK)|(refine zC ?_ ?_<;>(try refine zH ?_)<;>intro hcond<;>try exact zX)|fail)
  refine AWp.weak (Weak.opens ((fun t f => [f, f, f, t, f, f, f, f, f, f, f, f, f, f, f, f, f, f, f, f, f, f, f, f, f, f, f, f, f, f, f, f, f, f, f, f, f, f, f, f, f, f, f, f, f, f, f, f]) true false) 1 (by first | omega | simp)) ?_
  simp only [openS, openV, List.length_cons, List.length_nil, List.length_append, Nat.reduceAdd, List.cons_append, List.nil_append]
  refine AWp.weak (Weak.untok 3 rfl) ?_
  simp only [List.set_cons_succ, List.set_cons_zero]
  refine zR trivial trivial trivial ?_
  refine AWp.loopS (α:=(Nat × List (List Int))) 48 (fun s=>[(0,.c (.slice (llRows l) .none)),(3,.c (.slice (llRows s.2) .none)),(4,.c (.int .i64 (s.1 : Int)))]) (fun s=>[]) (fun s=>s.1 ≤ l.length ∧ s.2 = sortLL (l.take s.1)) (fun s=>l.length - s.1) ((0, [])) (hk:=Weak.headL 0 48 [0, 3, 4] zW) (h0:=?_) (round:=fun s hI=>?_)
  · exact ⟨Nat.zero_le _, hz.symm⟩
  · obtain ⟨i, S⟩ := s
    obtain ⟨hi, hS⟩ := hI
    simp only at hi hS ⊢
    have hSl : S.length = i := by rw [hS, (sortLL_perm _).length_eq, List.length_take]; omega
    have hSm : ∀ y, y ∈ S → y.length < 2 ^ 40 := fun y hy => by
      rw [hS] at hy
      exact hll y (List.mem_of_mem_take ((sortLL_perm _).mem_iff.1 hy))
    by_cases hlt : i < l.length
    · have hltI : (i : Int) < (l.length : Int) := by omega
      have e0 := List.getElem?_eq_getElem hlt
      have e1 := llRows_get e0
      have hxl := hll _ (List.getElem_mem hlt)
      have hsn := List.take_succ_eq_append_getElem hlt
      generalize l[i] = x at *
      have hins := fun k hk h1 h2 => insL_sort (x := x) (k := k) hS hk h1 h2
      rw [← hsn] at hins
      clear hS
      refine zR (zc @hltI (zc @llRows_len trivial)) trivial trivial ?_
      refine AWp.loopS (α:=Nat) 48 (fun k=>[(0,.c (.slice (llRows l) .none)),(3,.c (.slice (llRows S) .none)),(4,.c (.int .i64 (i : Int))),(5,.c (.int .i64 (k : Int)))]) (fun k=>[]) (fun k=>k ≤ S.length ∧ ∀ j y, k ≤ j → S[j]? = some y → befL x y = true) (fun k=>k) (S.length) (hk:=Weak.headL 0 48 [0, 3, 4, 5] zW) (h0:=?_) (round:=fun k hI=>?_)
      · exact ⟨Nat.le_refl _, fun j y hj hy => by rw [List.getElem?_eq_none hj] at hy; cases hy⟩
      · obtain ⟨hk, hgt⟩ := hI
        have hkI : (k : Int) ≤ (S.length : Int) := by omega
        have hd : (llRows S).drop k = llRows (S.drop k) := llRows_drop S _
        have ht : (llRows S).take k = llRows (S.take k) := llRows_take S _
        have hta : (llRows S).take S.length = llRows S := List.take_of_length_le (by rw [llRows_len]; exact Nat.le_refl _)
        have hcat : llRows (S.take k) ++ [[Tree.slice (iRows x)]] ++ llRows (S.drop k) = llRows (S.take k ++ [x] ++ S.drop k) := by simp [llRows]
        have hlA : (S.take k).length = k := by rw [List.length_take]; omega
        have hdl : ((llRows S).drop k).length = S.length - k := by rw [List.length_drop, llRows_len]
        have hlB : (S.drop k).length = S.length - k := List.length_drop ..
        cases k with
        | zero =>
          have hi2 := hins 0 hk hgt (fun j y hj => by omega)
          rw [hi2] at hcat
          generalize hA : S.take 0 = A at *
          generalize hB : S.drop 0 = B at *
          generalize hS2 : sortLL (l.take (i + 1)) = S2 at *
          repeat' (first|((first|(refine zT ?_;intro K' hK')|(refine zG ?_ ?_<;>(try refine zH ?_)<;>intro hguard<;>(try exact zX)<;>try intro K' hK'))<;>((try simp +contextual only [go_sem, e1, llRows_len, Int.toNat_natCast, Int.toNat_zero, hkI, hltI, hd, ht, hta, hcat, hlA, hlB, hdl, chunks, List.range, List.range.loop, Option.isSome_none, Option.isSome_some, Bool.false_eq_true, false_and, not_false_eq_true]);(repeat' first|(with_reducible refine hK' _ _ ?_;clear hK' K')|(with_reducible exact llRows_k' (by assumption))|(exact .inr True.intro)|(with_reducible exact llRowsA_k' (by assumption))|exact zY|with_reducible refine And.intro ?_ ?_|(with_reducible intro hpath;try exact zP)|(refine hK' _ _ ?_;clear hK' K')|fail);try refine zS ?_))|(refine zE ?_;refine hK _ _ ?_;clear hK K)|(refine zN ?_;try refine zS ?_)|refine zA ?_|(refine zB ?_;intro K hK)|(refine zC ?_ ?_<;>(try refine zH ?_)<;>intro hcond<;>try exact zX)|fail)
          refine ⟨(i + 1, S2),(Weak.untok 3 rfl).trans (Weak.headN 0 48 [0, 3, 4] zW),?_,?_⟩
          · exact ⟨hlt, hS2.symm⟩
          · simp only; omega
        | succ j =>
          have hj1 : ((j + 1 : Nat) : Int) - 1 = (j : Int) := by omega
          have hj2 : (0 : Int) < ((j + 1 : Nat) : Int) := by omega
          have hj3 : (j : Int) < (S.length : Int) := by omega
          have f0 := List.getElem?_eq_getElem (show j < S.length by omega)
          have f1 := llRows_get f0
          have hBf := Before_ok x S[j] hxl (hSm _ (List.getElem_mem _))
          generalize S[j] = y at *
          cases hxy : befL x y with
          | true =>
            rw [hxy] at hBf
            refine zR (zc @e1 (zc @f1 (zc @hj1 (zc @hj2 (zc @hj3 (zc @hltI (zc @llRows_len trivial))))))) (zc hBf trivial) trivial ?_
            refine ⟨j,Weak.headN 0 48 [0, 3, 4, 5] zW,?_,?_⟩
            · refine ⟨by omega, fun q z hq hz => ?_⟩
              by_cases e : q = j
              · subst e; rw [f0] at hz; cases hz; exact hxy
              · exact hgt q z (by omega) hz
            · omega
          | false =>
            have hi2 := hins (j + 1) hk hgt (fun q z hq hz => by
              have : q = j := by omega
              subst this; rw [f0] at hz; cases hz; exact hxy)
            rw [hi2] at hcat
            rw [hxy] at hBf
            generalize hA : S.take (j + 1) = A at *
            generalize hB : S.drop (j + 1) = B at *
            generalize hS2 : sortLL (l.take (i + 1)) = S2 at *
            repeat' (first|((first|(refine zT ?_;intro K' hK')|(refine zG ?_ ?_<;>(try refine zH ?_)<;>intro hguard<;>(try exact zX)<;>try intro K' hK'))<;>((try simp +contextual only [go_sem, e1, f1, hj1, hj2, hj3, llRows_len, Int.toNat_natCast, Int.toNat_zero, hkI, hltI, hd, ht, hta, hcat, hlA, hlB, hdl, chunks, List.range, List.range.loop, Option.isSome_none, Option.isSome_some, Bool.false_eq_true, false_and, not_false_eq_true]);(repeat' first|(with_reducible refine hK' _ _ ?_;clear hK' K')|(with_reducible refine zK hBf ?_;try simp +contextual only [go_sem, e1, f1, hj1, hj2, hj3, llRows_len, Int.toNat_natCast, Int.toNat_zero, hkI, hltI, hd, ht, hta, hcat, hlA, hlB, hdl, chunks, List.range, List.range.loop, Option.isSome_none, Option.isSome_some, Bool.false_eq_true, false_and, not_false_eq_true])|(with_reducible exact llRows_k' (by assumption))|(exact .inr True.intro)|(with_reducible exact llRowsA_k' (by assumption))|exact zY|with_reducible refine And.intro ?_ ?_|(with_reducible intro hpath;try exact zP)|(refine hK' _ _ ?_;clear hK' K')|fail);try refine zS ?_))|(refine zE ?_;refine hK _ _ ?_;clear hK K)|(refine zN ?_;try refine zS ?_)|refine zA ?_|(refine zB ?_;intro K hK)|(refine zC ?_ ?_<;>(try refine zH ?_)<;>intro hcond<;>try exact zX)|fail)
            refine ⟨(i + 1, S2),(Weak.untok 3 rfl).trans (Weak.headN 0 48 [0, 3, 4] zW),?_,?_⟩
            · exact ⟨hlt, hS2.symm⟩
            · simp only; omega
    · have ei : i = l.length := by omega
      have hnl : ¬ ((i : Int) < (l.length : Int)) := by omega
      rw [ei, List.take_length] at hS
      rw [← hS]
      refine zR (zc @hnl (zc @llRows_len trivial)) trivial trivial ?_
      simp [Rets, aret, Blk.cells, ty, Tryz.results24, ares, toT1, toT, borrow, borrow0, capCell, toTree0, tlists]
theorem inverse_ok (nums : List Int) (fl : List Bool) (hl : fl.length = nums.length) (hN : ∀ x, x ∈ nums → 0 ≤ x ∧ x < nums.length) (hs : nums.length < 2 ^ 20) : ACallB Tryz.prog 25 [tints nums, tbools fl] (iRows (invK nums fl nums.length)) := by
  refine ACallB.of_body Tryz.func25 rfl (by kernel_rfl) (fun r hr => by obtain ⟨x, _, rfl⟩ := List.mem_map.1 hr; rfl) ?_
  simp only [entry, Tryz.ntmps25, tints, tbools]
  refine zU ?_
  have h2 : (2 : Int) * (nums.length : Int) = ((2 * nums.length : Nat) : Int) := by omega
  have h0 : List.replicate (2 * nums.length) (0 : Int) = invK nums fl 0 := rfl
  refine zR (zc @iRows_len (zc @made_ints (zc @h2 trivial))) trivial trivial ?_
  rw [h0]
  refine AWp.loopS (α:=Nat) 53 (fun e=>[(0,.c (.slice (iRows nums) .none)),(1,.c (.slice (bRows fl) .none)),(5,.c (.ref 0 1 0 (2 * nums.length) (2 * nums.length))),(14,.c (.slice (iRows nums) .none)),(15,.c (.int .i64 (nums.length : Int))),(16,.c (.int .i64 (e : Int)))]) (fun e=>[.box (iC (invK nums fl e))]) (fun e=>e ≤ nums.length) (fun e=>nums.length - e) (0) (hk:=Weak.headL 1 53 [0, 1, 5, 14, 15, 16] zW) (h0:=?_) (round:=fun e hI=>?_)
  · exact Nat.zero_le _
  · have he : e ≤ nums.length := hI
    clear hI
    have hlen := invK_len nums fl e
    by_cases hlt : e < nums.length
    · have hltI : (e : Int) < (nums.length : Int) := by omega
      have e0 := List.getElem?_eq_getElem hlt
      have e1 := iRows_get e0
      have hd := hN _ (List.getElem_mem hlt)
      have b0 := List.getElem?_eq_getElem (show e < fl.length by omega)
      have b1 := bRows_get b0
      have hstep := invK_succ nums fl e
      unfold invS at hstep
      rw [List.getD_eq_getElem?_getD, e0, Option.getD_some, List.getD_eq_getElem?_getD, b0, Option.getD_some] at hstep
      generalize nums[e] = d at *
      generalize fl[e]'(by omega) = b at *
      obtain ⟨d, rfl⟩ := Int.eq_ofNat_of_zero_le hd.1
      have d0 : ¬ ((d : Int) < 0) := by omega
      have d1 : ¬ ((nums.length : Int) ≤ (d : Int)) := by omega
      have d2 : (2 * (d : Int)).toNat = 2 * d := by omega
      have d3 : (2 * (d : Int) + 1).toNat = 2 * d + 1 := by omega
      have d4 : 2 * (d : Int) < ((2 * nums.length : Nat) : Int) := by omega
      have d5 : 2 * (d : Int) + 1 < ((2 * nums.length : Nat) : Int) := by omega
      have d6 : 2 * d < 2 * nums.length := by omega
      have d7 : 2 * d + 1 < 2 * nums.length := by omega
      rw [show ((d : Nat) : Int).toNat = d from rfl] at hstep
      generalize hV2 : invK nums fl (e + 1) = V2 at *
      generalize invK nums fl e = V at *
      cases b with
      | true =>
        rw [if_pos rfl, if_pos rfl] at hstep
        repeat' (first|((first|(refine zT ?_;intro K' hK')|(refine zG ?_ ?_<;>(try refine zH ?_)<;>intro hguard<;>(try exact zX)<;>try intro K' hK'))<;>((try simp +contextual only [go_sem, hltI, iRows_len, bRows_len, hl, e1, b1, d0, d1, d2, d3, d4, d5, d6, d7, Int.toNat_natCast, Nat.mul_one, iC_set, iC_len, hlen, List.length_set]);(repeat' first|(with_reducible refine hK' _ _ ?_;clear hK' K')|exact zY|with_reducible refine And.intro ?_ ?_|(with_reducible intro hpath;try exact zP)|(refine hK' _ _ ?_;clear hK' K')|fail);try refine zS ?_))|(refine zE ?_;refine hK _ _ ?_;clear hK K)|(refine zN ?_;try refine zS ?_)|refine zA ?_|(refine zB ?_;intro K hK)|(refine zC ?_ ?_<;>(try refine zH ?_)<;>intro hcond<;>try exact zX)|fail)
        refine ⟨e + 1,Weak.headF 1 53 [0, 1, 5, 14, 15, 16] (zc @hV2 (zc @hstep trivial)) zW,?_,?_⟩
        · exact hlt
        · omega
      | false =>
        rw [if_neg (by simp), if_neg (by simp)] at hstep
        repeat' (first|((first|(refine zT ?_;intro K' hK')|(refine zG ?_ ?_<;>(try refine zH ?_)<;>intro hguard<;>(try exact zX)<;>try intro K' hK'))<;>((try simp +contextual only [go_sem, hltI, iRows_len, bRows_len, hl, e1, b1, d0, d1, d2, d3, d4, d5, d6, d7, Int.toNat_natCast, Nat.mul_one, iC_set, iC_len, hlen, List.length_set]);(repeat' first|(with_reducible refine hK' _ _ ?_;clear hK' K')|exact zY|with_reducible refine And.intro ?_ ?_|(with_reducible intro hpath;try exact zP)|(refine hK' _ _ ?_;clear hK' K')|fail);try refine zS ?_))|(refine zE ?_;refine hK _ _ ?_;clear hK K)|(refine zN ?_;try refine zS ?_)|refine zA ?_|(refine zB ?_;intro K hK)|(refine zC ?_ ?_<;>(try refine zH ?_)<;>intro hcond<;>try exact zX)|fail)
        refine ⟨e + 1,Weak.headF 1 53 [0, 1, 5, 14, 15, 16] (zc @hV2 (zc @hstep trivial)) zW,?_,?_⟩
        · exact hlt
        · omega
    · have ee : e = nums.length := by omega
      have hnl : ¬ ((e : Int) < (nums.length : Int)) := by omega
      rw [ee] at hlen ⊢
      generalize hV : invK nums fl nums.length = V at *
      rw [ee] at hnl
      refine zR (zc @hnl trivial) trivial trivial ?_
      simp [RetsB, Tryz.results25, iRows_len, hlen, flat_iRows]
theorem renL_len (to l : List Int) : (renL to l).length = l.length := by unfold renL; rw [turnL_len, List.length_map]
theorem renumbered_ok (r : R) (to : List Int) (hA : r.ar.length < 2 ^ 20) (hs : ∀ l, l ∈ r.ar → l.length < 2 ^ 20) (ht : to.length < 2 ^ 20) (hr : ∀ l, l ∈ r.ar → ∀ x, x ∈ l → 0 ≤ x ∧ x < to.length) :
    ACall Tryz.prog 26 [tR r, tints to] (tlists (sortLL (r.ar.map (renL to)))) := by
  have hO := Ordered_ok (r.ar.map (renL to)) (by rw [List.length_map]; omega) (fun x hx => by
    obtain ⟨l, hl, rfl⟩ := List.mem_map.1 hx
    rw [renL_len]; have := hs l hl; omega)
  obtain ⟨n, es, ar⟩ := r
  simp only at hA hs hr hO ⊢
  refine ACall.of_body Tryz.func26 rfl (by kernel_rfl) ?_
  simp only [entry, Tryz.ntmps26, tR, tints]
  refine zU ?_
  repeat' ((fail_if_success (with_reducible refine AWp.atSeq 2 ?_));(fail_if_success (with_reducible refine AWp.atLast 2 ?_));first|((first|(refine zT ?_;intro K' hK')|(refine zG ?_ ?_<;>(try refine zH ?_)<;>intro hguard<;>(try exact zX)<;>try intro K' hK'))<;>((try simp +contextual only [go_sem]);(repeat' first|(with_reducible refine hK' _ _ ?_;clear hK' K')|exact zY|with_reducible refine And.intro ?_ ?_|(with_reducible intro hpath;try exact zP)|(refine hK' _ _ ?_;clear hK' K')|fail);try refine zS ?_))|(refine zE ?_;refine hK _ _ ?_;clear hK K)|(refine zN ?_;try refine zS ?_)|refine zA ?_|(refine zB ?_;intro K hK)|(refine zC ?_ ?_<;>(try refine zH ?_)<;>intro hcond<;>try exact zX)|fail)
  refine AWp.weak (Weak.opens ((fun t f => [f, f, f, f, f, t, f, f, f, f, f, f, f, f, f, f, f, f, f, f, f, f, f, f, f, f, f, f, f, f, f, f, f, f, f, f, f, f, f, f, f, f, f, f, f, f, f, f, f, f, f, f]) true false) 1 (by first | omega | simp)) ?_
  simp only [openS, openV, List.length_cons, List.length_nil, List.length_append, Nat.reduceAdd, List.cons_append, List.nil_append]
  refine zR (zc @llRows_len trivial) trivial trivial ?_
  refine AWp.loopS (α:=Nat) 52 (fun i=>[(1,.c (.slice (iRows to) .none)),(2,.c (.ptr 0 0)),(5,.c (.slice (llRows ((ar.take i).map (renL to))) (.chain 1))),(12,.c (.slice (llRows ar) .none)),(13,.c (.int .i64 (ar.length : Int))),(14,.c (.int .i64 (i : Int)))]) (fun i=>[.box [.int .i64 n, .slice (eRows es) .none, .slice (llRows ar) .none], .chain ((ar.take i).map (renL to)).length 1]) (fun i=>i ≤ ar.length) (fun i=>ar.length - i) (0) (hk:=Weak.headL 2 52 [1, 2, 5, 12, 13, 14] zW) (h0:=?_) (round:=fun i hI=>?_)
  · exact Nat.zero_le _
  · have hi : i ≤ ar.length := hI
    clear hI
    have hml : ((ar.take i).map (renL to)).length = i := by rw [List.length_map, List.length_take]; omega
    by_cases hlt : i < ar.length
    · have hltI : (i : Int) < (ar.length : Int) := by omega
      have e0 := List.getElem?_eq_getElem hlt
      have e1 := llRows_get e0
      have hmem := List.getElem_mem hlt
      have hsn : (ar.take (i + 1)).map (renL to) = (ar.take i).map (renL to) ++ [renL to ar[i]] := by
        rw [List.take_succ_eq_append_getElem hlt, List.map_append]; rfl
      have hll := hs _ hmem
      have hlx := hr _ hmem
      have hml2 : ((ar.take (i + 1)).map (renL to)).length = i + 1 := by rw [List.length_map, List.length_take]; omega
      generalize ar[i] = l at *
      have hrs := llRows_snoc ((ar.take i).map (renL to)) (renL to l)
      rw [← hsn] at hrs
      generalize hM2 : (ar.take (i + 1)).map (renL to) = M2 at *
      generalize (ar.take i).map (renL to) = M1 at *
      repeat' ((fail_if_success (with_reducible refine AWp.atSeq 6 ?_));(fail_if_success (with_reducible refine AWp.atLast 6 ?_));first|((first|(refine zT ?_;intro K' hK')|(refine zG ?_ ?_<;>(try refine zH ?_)<;>intro hguard<;>(try exact zX)<;>try intro K' hK'))<;>((try simp +contextual only [go_sem, hltI, e1, Int.toNat_natCast]);(repeat' first|(with_reducible refine hK' _ _ ?_;clear hK' K')|exact zY|with_reducible refine And.intro ?_ ?_|(with_reducible intro hpath;try exact zP)|(refine hK' _ _ ?_;clear hK' K')|fail);try refine zS ?_))|(refine zE ?_;refine hK _ _ ?_;clear hK K)|(refine zN ?_;try refine zS ?_)|refine zA ?_|(refine zB ?_;intro K hK)|(refine zC ?_ ?_<;>(try refine zH ?_)<;>intro hcond<;>try exact zX)|fail)
      refine AWp.weak (Weak.opens ((fun t f => [f, f, f, f, f, f, f, f, t, f, f, f, f, f, f, f, f, f, f, f, f, f, f, f, f, f, f, f, f, f, f, f, f, f, f, f, f, f, f, f, f, f, f, f, f, f, f, f, f, f, f, f]) true false) 1 (by first | omega | simp)) ?_
      simp only [openS, openV, List.length_cons, List.length_nil, List.length_append, Nat.reduceAdd, List.cons_append, List.nil_append]
      refine zR (zc @iRows_len trivial) trivial trivial ?_
      refine AWp.loopS (α:=Nat) 52 (fun j=>[(1,.c (.slice (iRows to) .none)),(2,.c (.ptr 0 0)),(5,.c (.slice (llRows M1) (.chain 1))),(8,.c (.slice (iRows ((l.take j).map fun z => to.getD z.toNat 0)) (.chain 2))),(12,.c (.slice (llRows ar) .none)),(13,.c (.int .i64 (ar.length : Int))),(14,.c (.int .i64 (i : Int))),(18,.c (.slice (iRows l) .none)),(19,.c (.int .i64 (l.length : Int))),(20,.c (.int .i64 (j : Int)))]) (fun j=>[.box [.int .i64 n, .slice (eRows es) .none, .slice (llRows ar) .none], .chain M1.length 1, .chain ((l.take j).map fun z => to.getD z.toNat 0).length 1]) (fun j=>j ≤ l.length) (fun j=>l.length - j) (0) (hk:=Weak.headL 3 52 [1, 2, 5, 8, 12, 13, 14, 18, 19, 20] zW) (h0:=?_) (round:=fun j hI=>?_)
      · exact Nat.zero_le _
      · have hj : j ≤ l.length := hI
        clear hI
        have htl : ((l.take j).map fun z => to.getD z.toNat 0).length = j := by rw [List.length_map, List.length_take]; omega
        by_cases hjl : j < l.length
        · have hjI : (j : Int) < (l.length : Int) := by omega
          have f0 := List.getElem?_eq_getElem hjl
          have f1 := iRows_get f0
          have hx := hlx _ (List.getElem_mem hjl)
          have hsn2 : (l.take (j + 1)).map (fun z => to.getD z.toNat 0) = (l.take j).map (fun z => to.getD z.toNat 0) ++ [to.getD l[j].toNat 0] := by
            rw [List.take_succ_eq_append_getElem hjl, List.map_append]; rfl
          have htl2 : ((l.take (j + 1)).map fun z => to.getD z.toNat 0).length = j + 1 := by rw [List.length_map, List.length_take]; omega
          generalize l[j] = x at *
          obtain ⟨z, rfl⟩ := Int.eq_ofNat_of_zero_le hx.1
          have z0 : ¬ ((z : Int) < 0) := by omega
          have z1 : ¬ ((to.length : Int) ≤ (z : Int)) := by omega
          have z2 : (z : Int) < (to.length : Int) := by omega
          have g0 := List.getElem?_eq_getElem (show z < to.length by omega)
          have g1 := iRows_get g0
          rw [show ((z : Nat) : Int).toNat = z from rfl, List.getD_eq_getElem?_getD, g0, Option.getD_some] at hsn2
          generalize to[z]'(by omega) = y at *
          have hrs2 := iRows_snoc ((l.take j).map fun z => to.getD z.toNat 0) y
          rw [← hsn2] at hrs2
          generalize hT2 : (l.take (j + 1)).map (fun z => to.getD z.toNat 0) = T2 at *
          generalize (l.take j).map (fun z => to.getD z.toNat 0) = T1 at *
          refine zRc (zc @hjI (zc @f1 (zc @z0 (zc @z1 (zc @z2 (zc @g1 (zc @iRows_len (zc @htl (zc @hrs2 trivial))))))))) trivial @iRows_k' ?_
          refine ⟨j + 1,Weak.headF 3 52 [1, 2, 5, 8, 12, 13, 14, 18, 19, 20] (zc @hT2 (zc @htl2 (zc @htl trivial))) zW,?_,?_⟩
          · exact hjl
          · omega
        · have ej : j = l.length := by omega
          have hnj : ¬ ((j : Int) < (l.length : Int)) := by omega
          have eT : l.take j = l := by rw [ej, List.take_length]
          rw [eT] at htl ⊢
          have hT := refTurned_ok (l.map fun z => to.getD z.toNat 0) (by rw [List.length_map]; omega)
          have hren : renL to l = turnL (l.map fun z => to.getD z.toNat 0) := rfl
          rw [hren] at hrs
          generalize hX : l.map (fun z => to.getD z.toNat 0) = X at *
          by_cases h0 : 0 < l.length
          · have h0I : (0 : Int) < (X.length : Int) := by omega
            generalize turnL X = Y at *
            refine zRc (zc @hnj (zc @h0I (zc @iRows_len (zc @llRows_len (zc @hml (zc @hrs trivial)))))) (zc hT trivial) @llRows_k' ?_
            refine ⟨i + 1,Weak.headF 2 52 [1, 2, 5, 12, 13, 14] (zc @hM2 (zc @hml2 (zc @hml trivial))) zW,?_,?_⟩
            · exact hlt
            · omega
          · have h0I : ¬ ((0 : Int) < (X.length : Int)) := by omega
            have eX : X = [] := List.length_eq_zero_iff.1 (by omega)
            have eY : turnL X = X := by rw [eX]; rfl
            rw [eY] at hrs
            refine zRc (zc @hnj (zc @h0I (zc @iRows_len (zc @llRows_len (zc @hml (zc @hrs trivial)))))) trivial @llRows_k' ?_
            refine ⟨i + 1,Weak.headF 2 52 [1, 2, 5, 12, 13, 14] (zc @hM2 (zc @hml2 (zc @hml trivial))) zW,?_,?_⟩
            · exact hlt
            · omega
    · have ei : i = ar.length := by omega
      have hnl : ¬ ((i : Int) < (ar.length : Int)) := by omega
      have eT : ar.take i = ar := by rw [ei, List.take_length]
      rw [eT]
      generalize ar.map (renL to) = X at *
      generalize sortLL X = Y at *
      refine zR (zc @hnl trivial) (zc hO trivial) trivial ?_
      simp [Rets, aret, Blk.cells, ty, Tryz.results26, ares, toT1, toT, borrow, borrow0, capCell, toTree0, tlists]
end Go.Proofs.YtfkegnhpihoncaaGreat
set_option linter.all false
namespace Go.Proofs.YtfkegnhpihoncaaGreat
open Go.Sp
set_option linter.unusedSimpArgs false
set_option linter.unusedVariables false
set_option maxHeartbeats 4000000
set_option maxRecDepth 100000
def rightR (r : R) : Bool := fewR r && decide (ribE r = 0)
theorem rightR_ok (r : R) : ACall Tryz.prog 19 [tR r] (tbool (rightR r)) := by
  have f1 := FewR_ok r
  unfold rightR
  by_cases hr : fewR r = true
  · have hC := refCheck_ok r (rsm_of hr)
    rw [hr] at f1 ⊢
    rw [Bool.true_and]
    generalize ribE r = E at *
    clear hr
    obtain ⟨n, es, ar⟩ := r
    refine ACall.of_body Tryz.func19 rfl (by kernel_rfl) ?_
    simp only [entry, Tryz.ntmps19, tR]
    refine zU ?_
    by_cases hE : E = 0
    · rw [decide_eq_true hE]
      refine zR (zc @hE trivial) (zc f1 (zc hC trivial)) trivial ?_
      simp [Rets, aret, Blk.cells, ty, Tryz.results19, ares, toT1, toT, borrow, borrow0, capCell, toTree0, tbool]
    · rw [decide_eq_false hE]
      refine zR (zc @hE trivial) (zc f1 (zc hC trivial)) trivial ?_
      simp [Rets, aret, Blk.cells, ty, Tryz.results19, ares, toT1, toT, borrow, borrow0, capCell, toTree0, tbool]
  · simp only [Bool.not_eq_true] at hr
    rw [hr] at f1 ⊢
    rw [Bool.false_and]
    clear hr
    obtain ⟨n, es, ar⟩ := r
    refine ACall.of_body Tryz.func19 rfl (by kernel_rfl) ?_
    simp only [entry, Tryz.ntmps19, tR]
    refine zU ?_
    refine zR trivial (zc f1 trivial) trivial ?_
    simp [Rets, aret, Blk.cells, ty, Tryz.results19, ares, toT1, toT, borrow, borrow0, capCell, toTree0, tbool]
theorem rightR_iff {r : R} : rightR r = true ↔ fewR r = true ∧ ribE r = 0 := by
  unfold rightR; rw [Bool.and_eq_true, decide_eq_true_eq]
end Go.Proofs.YtfkegnhpihoncaaGreat
