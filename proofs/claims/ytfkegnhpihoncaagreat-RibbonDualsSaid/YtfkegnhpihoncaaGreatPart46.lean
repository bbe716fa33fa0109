/- A part of the proof: contracts of functions of the program, and plain lemmas. -/
import Derived.Test.YtfkegnhpihoncaaGreatPart35
import Derived.Test.YtfkegnhpihoncaaGreatPart26
import Derived.Test.YtfkegnhpihoncaaGreatPart22
import Derived.Test.YtfkegnhpihoncaaGreatPart45
import Derived.Test.YtfkegnhpihoncaaGreatPart17
import Derived.Test.YtfkegnhpihoncaaGreatPart40
import Derived.Test.YtfkegnhpihoncaaGreatPart38
import Derived.Test.YtfkegnhpihoncaaGreatLayerC
import Derived.Test.YtfkegnhpihoncaaGreatPart41
import Derived.Test.YtfkegnhpihoncaaGreatPart42
set_option linter.all false
namespace Go.Proofs.YtfkegnhpihoncaaGreat
open Go.Sp
set_option linter.unusedSimpArgs false
set_option linter.unusedVariables false
set_option maxHeartbeats 4000000
set_option maxRecDepth 100000
theorem sortI_le (l : List Int) : (sortI l).Pairwise (· ≤ ·) := by
 have := List.pairwise_mergeSort (le := fun x y : Int => decide (x ≤ y)) (fun a b c h1 h2 => by simp at *; omega) (fun a b => by simp; omega) l
 exact this.imp fun h => by simpa using h
theorem sortI_of {l m : List Int} (hs : m.Pairwise (· ≤ ·)) (hp : m.Perm l) : m = sortI l :=
 List.Perm.eq_of_pairwise (le := fun x y : Int => x ≤ y) (fun a b _ _ h1 h2 => Int.le_antisymm h1 h2) hs (sortI_le l) (hp.trans (sortI_perm l).symm)
theorem ins_sort {S m : List Int} {x : Int} {k : Nat} (hS : S = sortI m) (hk : k ≤ S.length) (h1 : ∀ j y, k ≤ j → S[j]? = some y → x < y) (h2 : ∀ j y, j + 1 = k → S[j]? = some y → y ≤ x) :
  S.take k ++ [x] ++ S.drop k = sortI (m ++ [x]) := by
 have hp := sortI_le m
 rw [← hS] at hp
 have hp2 := hp
 rw [← List.take_append_drop k S, List.pairwise_append] at hp2
 have ha : ∀ a, a ∈ S.take k → a ≤ x := fun a ha => by
  obtain ⟨i, hi, rfl⟩ := List.getElem_of_mem ha
  rw [List.length_take] at hi
  rw [List.getElem_take]
  have hkl : k - 1 < S.length := by omega
  have := h2 (k - 1) S[k - 1] (by omega) (List.getElem?_eq_getElem hkl)
  by_cases e : i = k - 1
  ·subst e; exact this
  ·have := List.pairwise_iff_getElem.1 hp i (k - 1) (by omega) hkl (by omega)
   omega
 have hb : ∀ b, b ∈ S.drop k → x < b := fun b hb => by
  obtain ⟨i, hi, rfl⟩ := List.getElem_of_mem hb
  rw [List.length_drop] at hi
  rw [List.getElem_drop]
  exact h1 (k + i) _ (by omega) (List.getElem?_eq_getElem (by omega))
 refine sortI_of ?_ ?_
 ·rw [List.append_assoc, List.pairwise_append]
  refine ⟨hp2.1, ?_, ?_⟩
  ·rw [List.singleton_append, List.pairwise_cons]
   exact ⟨fun b hb' => by have := hb b hb'; omega, hp2.2.1⟩
  ·intro a ha' b hb'
   have := ha a ha'
   rcases List.mem_append.1 hb' with h | h
   ·obtain rfl := List.mem_singleton.1 h; exact this
   ·have := hb b h; omega
 ·have e1 : (S.take k ++ [x] ++ S.drop k).Perm (x :: (S.take k ++ S.drop k)) := by
   rw [List.append_assoc, List.singleton_append]; exact List.perm_middle
  rw [List.take_append_drop] at e1
  refine e1.trans ?_
  rw [hS]
  exact ((sortI_perm m).cons x).trans (List.perm_append_singleton x m).symm
theorem iRowsA_k' {A : List Int} {x : Int} {r : List Tree} (h : r ∈ iRows A ++ [[Tree.int .i64 x]]) : r.length = 1 := by
 rcases List.mem_append.1 h with h | h
 ·exact iRows_k' h
 ·rw [List.mem_singleton.1 h]; rfl
theorem refSorted_ok (l : List Int) (hl : l.length < 2 ^ 30) : ACall Tryz.prog 83 [tints l] (tints (sortI l)) := by
 have hz : sortI ([] : List Int) = [] := List.Perm.eq_nil (sortI_perm [])
 refine ACall.of_body Tryz.func83 rfl (by kernel_rfl) ?_
 simp only [entry, Tryz.ntmps83, tints]
 refine zU ?_
 repeat' ((fail_if_success (with_reducible refine AWp.atSeq 2 ?_));(fail_if_success (with_reducible refine AWp.atLast 2 ?_));first|((first|(refine zT ?_;intro K' hK')|(refine zG ?_ ?_<;>(try refine zH ?_)<;>intro hguard<;>(try exact zX)<;>try intro K' hK'))<;>((try simp +contextual only [go_sem]);(repeat' first|(with_reducible refine hK' _ _ ?_;clear hK' K')|exact zY|with_reducible refine And.intro ?_ ?_|(with_reducible intro hpath;try exact zP)|(refine hK' _ _ ?_;clear hK' K')|fail);try refine zS ?_))|(refine zE ?_;refine hK _ _ ?_;clear hK K)|(refine zN ?_;try refine zS ?_)|refine zA ?_|(refine zB ?_;intro K hK)|(refine zC ?_ ?_<;>(try refine zH ?_)<;>intro hcond<;>try exact zX)|fail)
 refine AWp.weak (Weak.opens ((fun t f => [f, f, f, t, f, f, f, f, f, f, f, f, f, f, f, f, f, f, f, f, f, f, f, f, f, f, f, f, f, f, f, f, f, f, f, f, f, f, f, f, f, f, f, f, f, f, f, f]) true false) 1 (by first | omega | simp)) ?_
 simp only [openS, openV, List.length_cons, List.length_nil, List.length_append, Nat.reduceAdd, List.cons_append, List.nil_append]
 refine AWp.weak (Weak.untok 3 rfl) ?_
 simp only [List.set_cons_succ, List.set_cons_zero]
 refine zR trivial trivial trivial ?_
 refine AWp.loopS (α:=(Nat × List Int)) 48 (fun s=>[(0,.c (.slice (iRows l) .none)),(3,.c (.slice (iRows s.2) .none)),(4,.c (.int .i64 (s.1 : Int)))]) (fun s=>[]) (fun s=>s.1 ≤ l.length ∧ s.2 = sortI (l.take s.1)) (fun s=>l.length - s.1) ((0, [])) (hk:=Weak.headL 0 48 [0, 3, 4] zW) (h0:=?_) (round:=fun s hI=>?_)
 ·exact ⟨Nat.zero_le _, hz.symm⟩
 ·obtain ⟨i, S⟩ := s
  obtain ⟨hi, hS⟩ := hI
  simp only at hi hS ⊢
  have hSl : S.length = i := by rw [hS, (sortI_perm _).length_eq, List.length_take]; omega
  by_cases hlt : i < l.length
  ·have hltI : (i : Int) < (l.length : Int) := by omega
   have e0 := List.getElem?_eq_getElem hlt
   have e1 := iRows_get e0
   have hsn := List.take_succ_eq_append_getElem hlt
   generalize l[i] = x at *
   have hins := fun k hk h1 h2 => ins_sort (x := x) (k := k) hS hk h1 h2
   rw [← hsn] at hins
   clear hS
   refine zR (zc @hltI (zc @iRows_len trivial)) trivial trivial ?_
   refine AWp.loopS (α:=Nat) 48 (fun k=>[(0,.c (.slice (iRows l) .none)),(3,.c (.slice (iRows S) .none)),(4,.c (.int .i64 (i : Int))),(5,.c (.int .i64 (k : Int)))]) (fun k=>[]) (fun k=>k ≤ S.length ∧ ∀ j y, k ≤ j → S[j]? = some y → x < y) (fun k=>k) (S.length) (hk:=Weak.headL 0 48 [0, 3, 4, 5] zW) (h0:=?_) (round:=fun k hI=>?_)
   ·exact ⟨Nat.le_refl _, fun j y hj hy => by rw [List.getElem?_eq_none hj] at hy; cases hy⟩
   ·obtain ⟨hk, hgt⟩ := hI
    have hkI : (k : Int) ≤ (S.length : Int) := by omega
    have hd : (iRows S).drop k = iRows (S.drop k) := iRows_drop S _
    have ht : (iRows S).take k = iRows (S.take k) := iRows_take S _
    have hta : (iRows S).take S.length = iRows S := List.take_of_length_le (by rw [iRows_len]; exact Nat.le_refl _)
    have hcat : iRows (S.take k) ++ [[Tree.int .i64 x]] ++ iRows (S.drop k) = iRows (S.take k ++ [x] ++ S.drop k) := by simp [iRows]
    have hlA : (S.take k).length = k := by rw [List.length_take]; omega
    have hdl : ((iRows S).drop k).length = S.length - k := by rw [List.length_drop, iRows_len]
    have hlB : (S.drop k).length = S.length - k := List.length_drop ..
    cases k with
    | zero =>
     have hi2 := hins 0 hk hgt (fun j y hj => by omega)
     rw [hi2] at hcat
     generalize hA : S.take 0 = A at *
     generalize hB : S.drop 0 = B at *
     generalize hS2 : sortI (l.take (i + 1)) = S2 at *
     repeat' (first|((first|(refine zT ?_;intro K' hK')|(refine zG ?_ ?_<;>(try refine zH ?_)<;>intro hguard<;>(try exact zX)<;>try intro K' hK'))<;>((try simp +contextual only [go_sem, e1, iRows_len, Int.toNat_natCast, Int.toNat_zero, hkI, hltI, hd, ht, hta, hcat, hlA, hlB, hdl, List.nil_append, chunks, List.range, List.range.loop, Option.isSome_none, Option.isSome_some, Bool.false_eq_true, false_and, not_false_eq_true]);(repeat' first|(with_reducible refine hK' _ _ ?_;clear hK' K')|(with_reducible exact iRows_k' (by assumption))|(exact .inr True.intro)|(with_reducible exact iRowsA_k' (by assumption))|exact zY|with_reducible refine And.intro ?_ ?_|(with_reducible intro hpath;try exact zP)|(refine hK' _ _ ?_;clear hK' K')|fail);try refine zS ?_))|(refine zE ?_;refine hK _ _ ?_;clear hK K)|(refine zN ?_;try refine zS ?_)|refine zA ?_|(refine zB ?_;intro K hK)|(refine zC ?_ ?_<;>(try refine zH ?_)<;>intro hcond<;>try exact zX)|fail)
     refine ⟨(i + 1, S2),(Weak.untok 3 rfl).trans (Weak.headN 0 48 [0, 3, 4] zW),?_,?_⟩
     ·exact ⟨hlt, hS2.symm⟩
     ·simp only; omega
    | succ j =>
     have hj1 : ((j + 1 : Nat) : Int) - 1 = (j : Int) := by omega
     have hj2 : (0 : Int) < ((j + 1 : Nat) : Int) := by omega
     have hj3 : (j : Int) < (S.length : Int) := by omega
     have f0 := List.getElem?_eq_getElem (show j < S.length by omega)
     have f1 := iRows_get f0
     generalize S[j] = y at *
     by_cases hxy : x < y
     ·
      refine zR (zc @e1 (zc @f1 (zc @hj1 (zc @hj2 (zc @hj3 (zc @hltI (zc @iRows_len (zc @hxy trivial)))))))) trivial trivial ?_
      refine ⟨j,Weak.headN 0 48 [0, 3, 4, 5] zW,?_,?_⟩
      ·refine ⟨by omega, fun q z hq hz => ?_⟩
       by_cases e : q = j
       ·subst e; rw [f0] at hz; cases hz; exact hxy
       ·exact hgt q z (by omega) hz
      ·omega
     ·have hi2 := hins (j + 1) hk hgt (fun q z hq hz => by
       have : q = j := by omega
       subst this; rw [f0] at hz; cases hz; omega)
      rw [hi2] at hcat
      generalize hA : S.take (j + 1) = A at *
      generalize hB : S.drop (j + 1) = B at *
      generalize hS2 : sortI (l.take (i + 1)) = S2 at *
      repeat' (first|((first|(refine zT ?_;intro K' hK')|(refine zG ?_ ?_<;>(try refine zH ?_)<;>intro hguard<;>(try exact zX)<;>try intro K' hK'))<;>((try simp +contextual only [go_sem, e1, f1, hj1, hj2, hj3, iRows_len, Int.toNat_natCast, Int.toNat_zero, hkI, hltI, hxy, hd, ht, hta, hcat, hlA, hlB, hdl, List.nil_append, chunks, List.range, List.range.loop, Option.isSome_none, Option.isSome_some, Bool.false_eq_true, false_and, not_false_eq_true]);(repeat' first|(with_reducible refine hK' _ _ ?_;clear hK' K')|(with_reducible exact iRows_k' (by assumption))|(exact .inr True.intro)|(with_reducible exact iRowsA_k' (by assumption))|exact zY|with_reducible refine And.intro ?_ ?_|(with_reducible intro hpath;try exact zP)|(refine hK' _ _ ?_;clear hK' K')|fail);try refine zS ?_))|(refine zE ?_;refine hK _ _ ?_;clear hK K)|(refine zN ?_;try refine zS ?_)|refine zA ?_|(refine zB ?_;intro K hK)|(refine zC ?_ ?_<;>(try refine zH ?_)<;>intro hcond<;>try exact zX)|fail)
      refine ⟨(i + 1, S2),(Weak.untok 3 rfl).trans (Weak.headN 0 48 [0, 3, 4] zW),?_,?_⟩
      ·exact ⟨hlt, hS2.symm⟩
      ·simp only; omega
  ·have ei : i = l.length := by omega
   have hnl : ¬ ((i : Int) < (l.length : Int)) := by omega
   rw [ei, List.take_length] at hS
   rw [← hS]
   refine zR (zc @hnl (zc @iRows_len trivial)) trivial trivial ?_
   simp [Rets, aret, Blk.cells, ty, Tryz.results83, ares, toT1, toT, borrow, borrow0, capCell, toTree0, tints]
def cotL (N t : List Int) (k : Nat) : List Int := ((List.range k).filter fun i : Nat => !decide ((i : Int) ∈ t)).map fun i : Nat => N.getD i 0
theorem cotL_in {N t : List Int} {k : Nat} (h : (k : Int) ∈ t) : cotL N t (k + 1) = cotL N t k := by
 unfold cotL
 rw [List.range_succ, List.filter_append]
 simp [h]
theorem cotL_out {N t : List Int} {k : Nat} (h : ¬ (k : Int) ∈ t) : cotL N t (k + 1) = cotL N t k ++ [N.getD k 0] := by
 unfold cotL
 rw [List.range_succ, List.filter_append]
 simp [h]
theorem cotL_len (N t : List Int) (k : Nat) : (cotL N t k).length ≤ k := by
 unfold cotL
 rw [List.length_map]
 refine Nat.le_trans (List.length_filter_le _ _) ?_
 rw [List.length_range]; exact Nat.le_refl _
noncomputable def cotE (r : R) (t : List Int) : Int := if ribE r ≠ 0 then ribE r else if treeE r.g t ≠ 0 then treeE r.g t else dualE r
noncomputable def cotR (r : R) (t : List Int) : List Int := if cotE r t ≠ 0 then [] else sortI (cotL (dualN r) t (dualN r).length)
theorem cot_bad (r : R) (t : List Int) (h : cotE r t ≠ 0) : cotR r t = [] := if_pos h
theorem refCotree_ok (r : R) (hs : RSm r) (t : List Int) (ht : t.length ≤ 40) : ACall Tryz.prog 41 [tR r, tints t] (.tup [tints (cotR r t), tint (cotE r t)]) := by
 have hC := refCheck_ok r hs
 by_cases h1 : ribE r = 0
 case neg =>
  have e : cotE r t = ribE r := if_pos h1
  rw [cot_bad r t (by rw [e]; exact h1), e]
  generalize ribE r = E at *
  clear hs e
  obtain ⟨n, es, ar⟩ := r
  refine ACall.of_body Tryz.func41 rfl (by kernel_rfl) ?_
  simp only [entry, Tryz.ntmps41, tR, tints]
  refine zU ?_
  refine zR (zc @h1 trivial) (zc hC trivial) trivial ?_
  simp [Rets, aret, Blk.cells, ty, Tryz.results41, ares, toT1, toT, borrow, borrow0, capCell, toTree0, tint, tints, iRows]
 have hT := refTree_ok r.g t hs.es ht
 by_cases h2 : treeE r.g t = 0
 case neg =>
  have e : cotE r t = treeE r.g t := by unfold cotE; rw [if_neg (by omega), if_pos h2]
  rw [cot_bad r t (by rw [e]; exact h2), e]
  generalize treeE r.g t = E at *
  rw [h1] at hC
  clear hs h1 e
  obtain ⟨n, es, ar⟩ := r
  simp only [R.g] at hT
  refine ACall.of_body Tryz.func41 rfl (by kernel_rfl) ?_
  simp only [entry, Tryz.ntmps41, tR, tints]
  refine zU ?_
  refine zR (zc @h2 trivial) (zc hC (zc hT trivial)) trivial ?_
  simp [Rets, aret, Blk.cells, ty, Tryz.results41, ares, toT1, toT, borrow, borrow0, capCell, toTree0, tint, tints, iRows]
 have hD := refTurning_ok r hs h1
 have e : cotE r t = dualE r := by unfold cotE; rw [if_neg (by omega), if_neg (by omega)]
 rw [h1] at hC
 rw [h2] at hT
 by_cases h3 : dualE r = 0
 case neg =>
  rw [cot_bad r t (by rw [e]; exact h3), e]
  generalize dualE r = E at *
  generalize dualD r = D at *
  generalize dualN r = N at *
  clear hs h1 h2 e
  obtain ⟨dn, des, dar⟩ := D
  obtain ⟨n, es, ar⟩ := r
  simp only [R.g, tR] at hT hD
  refine ACall.of_body Tryz.func41 rfl (by kernel_rfl) ?_
  simp only [entry, Tryz.ntmps41, tR, tints]
  refine zU ?_
  refine zR (zc @h3 trivial) (zc hC (zc hT (zc hD trivial))) trivial ?_
  simp [Rets, aret, Blk.cells, ty, Tryz.results41, ares, toT1, toT, borrow, borrow0, capCell, toTree0, tint, tints, iRows]
 have er : cotR r t = sortI (cotL (dualN r) t (dualN r).length) := if_neg (by omega)
 rw [er, e, h3]
 rw [h3] at hD
 have hNl : (dualN r).length ≤ 2000 := by
  unfold dualN
  rw [if_neg (by omega), numI_len, joinsR_len]
  exact ends_len (g := r.g) hs.es (rok_of h1).c
 generalize dualD r = D at *
 generalize dualN r = N at *
 clear hs h1 h2 h3 e er
 obtain ⟨dn, des, dar⟩ := D
 obtain ⟨n, es, ar⟩ := r
 simp only [R.g, tR] at hT hD
 refine ACall.of_body Tryz.func41 rfl (by kernel_rfl) ?_
 simp only [entry, Tryz.ntmps41, tR, tints]
 refine zU ?_
 repeat' ((fail_if_success (with_reducible refine AWp.atSeq 11 ?_));(fail_if_success (with_reducible refine AWp.atLast 11 ?_));first|((first|(refine zT ?_;intro K' hK')|(refine zG ?_ ?_<;>(try refine zH ?_)<;>intro hguard<;>(try exact zX)<;>try intro K' hK'))<;>((try simp +contextual only [go_sem]);(repeat' first|(with_reducible refine hK' _ _ ?_;clear hK' K')|((with_reducible first|refine zK hC ?_|refine zK hT ?_|refine zK hD ?_);try simp +contextual only [go_sem])|exact zY|with_reducible refine And.intro ?_ ?_|(with_reducible intro hpath;try exact zP)|(refine hK' _ _ ?_;clear hK' K')|fail);try refine zS ?_))|(refine zE ?_;refine hK _ _ ?_;clear hK K)|(refine zN ?_;try refine zS ?_)|refine zA ?_|(refine zB ?_;intro K hK)|(refine zC ?_ ?_<;>(try refine zH ?_)<;>intro hcond<;>try exact zX)|fail)
 refine AWp.weak (Weak.opens ((fun t f => [f, f, f, f, f, f, f, f, f, f, f, t, f, f, f, f, f, f, f, f, f, f, f, f, f, f, f, f, f, f, f, f, f, f, f, f, f, f, f, f, f, f, f, f, f, f, f, f, f, f, f, f, f]) true false) 1 (by first | omega | simp)) ?_
 simp only [openS, openV, List.length_cons, List.length_nil, List.length_append, Nat.reduceAdd, List.cons_append, List.nil_append]
 refine zR trivial trivial trivial ?_
 refine AWp.loopS (α:=Nat) 53 (fun i=>[(1,.c (.slice (iRows t) .none)),(9,.c (.slice (iRows N) .none)),(11,.c (.slice (iRows (cotL N t i)) (.chain 2))),(12,.c (.int .i64 (i : Int)))]) (fun i=>[.box [.int .i64 n, .slice (eRows es) .none, .slice (llRows ar) .none], .box [.int .i64 dn, .slice (eRows des) .none, .slice (llRows dar) .none], .chain (cotL N t i).length 1]) (fun i=>i ≤ N.length) (fun i=>N.length - i) (0) (hk:=Weak.headL 3 53 [1, 9, 11, 12] zW) (h0:=?_) (round:=fun i hI=>?_)
 ·exact Nat.zero_le _
 ·have hi : i ≤ N.length := hI
  clear hI
  have hcl := cotL_len N t i
  by_cases hlt : i < N.length
  ·have hltI : (i : Int) < N.length := by omega
   have e0 := List.getElem?_eq_getElem hlt
   have e1 := iRows_get e0
   have hH := Holds_ok t (i : Int) (by omega)
   by_cases hm : (i : Int) ∈ t
   ·have hc := cotL_in (N := N) hm
    rw [decide_eq_true hm] at hH
    generalize cotL N t i = C at *
    refine zR (zc @hltI (zc @iRows_len trivial)) (zc hH trivial) trivial ?_
    refine ⟨i + 1,Weak.headF 3 53 [1, 9, 11, 12] (zc @hc trivial) zW,?_,?_⟩
    ·exact hlt
    ·omega
   ·have hc := cotL_out (N := N) hm
    rw [decide_eq_false hm] at hH
    rw [List.getD_eq_getElem?_getD, e0, Option.getD_some] at hc
    have hcs := iRows_snoc (cotL N t i) N[i]
    rw [← hc] at hcs
    have hcl2 : (cotL N t (i + 1)).length = (cotL N t i).length + 1 := by rw [hc]; simp
    generalize N[i] = x at *
    generalize hC2 : cotL N t (i + 1) = C2 at *
    generalize cotL N t i = C at *
    refine zRc (zc @hltI (zc @iRows_len (zc @e1 (zc @hcs trivial)))) (zc hH trivial) @iRows_k' ?_
    refine ⟨i + 1,Weak.headF 3 53 [1, 9, 11, 12] (zc @hC2 (zc @hcl2 trivial)) zW,?_,?_⟩
    ·exact hlt
    ·omega
  ·have ei : i = N.length := by omega
   have hnl : ¬ ((i : Int) < (N.length : Int)) := by omega
   have hSo := refSorted_ok (cotL N t i) (by omega)
   rw [ei] at hSo hnl ⊢
   generalize cotL N t N.length = C at *
   generalize sortI C = C2 at *
   refine zR (zc @hnl (zc @iRows_len trivial)) (zc hSo trivial) trivial ?_
   simp [Rets, aret, Blk.cells, ty, Tryz.results41, ares, toT1, toT, borrow, borrow0, capCell, toTree0, tint, tints]
theorem rCotree_bad (r : R) (hs : RSm r) (t : List Int) (ht : t.length ≤ 40) (hb : cotE r t ≠ 0) : ACall Tryz.prog 40 [tR r, tints t] (.tup [tints (cotR r t), tint (cotE r t)]) := by
 have hC := rchecked_ok r hs
 rw [cot_bad r t hb]
 by_cases h1 : ribE r = 0
 case neg =>
  have e : cotE r t = ribE r := if_pos h1
  rw [e]
  rw [if_pos h1] at hC
  generalize ribE r = E at *
  clear hs e hb
  obtain ⟨n, es, ar⟩ := r
  refine ACall.of_body Tryz.func40 rfl (by kernel_rfl) ?_
  simp only [entry, Tryz.ntmps40, tR, tints]
  refine zU ?_
  refine zR (zc @h1 trivial) (zc hC trivial) trivial ?_
  simp [Rets, aret, Blk.cells, ty, Tryz.results40, ares, toT1, toT, borrow, borrow0, capCell, toTree0, tint, tints, iRows]
 have hT := tCheck_ok r.g t hs.es (by omega)
 rw [if_neg (by omega), h1] at hC
 by_cases h2 : treeE r.g t = 0
 case neg =>
  have e : cotE r t = treeE r.g t := by unfold cotE; rw [if_neg (by omega), if_pos h2]
  rw [e]
  generalize treeE r.g t = E at *
  generalize endsL r.es = L at *
  clear hs h1 e hb
  obtain ⟨n, es, ar⟩ := r
  simp only [R.g] at hT
  refine ACall.of_body Tryz.func40 rfl (by kernel_rfl) ?_
  simp only [entry, Tryz.ntmps40, tR, tints]
  refine zU ?_
  refine zR (zc @h2 trivial) (zc hC (zc hT trivial)) trivial ?_
  simp [Rets, aret, Blk.cells, ty, Tryz.results40, ares, toT1, toT, borrow, borrow0, capCell, toTree0, tint, tints, iRows]
 have hD := rDual_ok r hs
 have e : cotE r t = dualE r := by unfold cotE; rw [if_neg (by omega), if_neg (by omega)]
 rw [e] at hb ⊢
 rw [h2] at hT
 generalize dualE r = E at *
 generalize dualD r = D at *
 generalize dualN r = N at *
 generalize endsL r.es = L at *
 clear hs h1 h2 e
 obtain ⟨dn, des, dar⟩ := D
 obtain ⟨n, es, ar⟩ := r
 simp only [R.g, tR] at hT hD
 refine ACall.of_body Tryz.func40 rfl (by kernel_rfl) ?_
 simp only [entry, Tryz.ntmps40, tR, tints]
 refine zU ?_
 refine zR (zc @hb trivial) (zc hC (zc hT (zc hD trivial))) trivial ?_
 simp [Rets, aret, Blk.cells, ty, Tryz.results40, ares, toT1, toT, borrow, borrow0, capCell, toTree0, tint, tints, iRows]
theorem rCotree_x (r : R) (hs : RSm r) (t : List Int) (ht : t.length ≤ 40) (hb : cotE r t = 0) : ACallX Tryz.prog 40 [] [ofT (tR r), ofT (tints t)] (.tup [tints (cotR r t), tint (cotE r t)]) := by
 have hC := rchecked_ok r hs
 have h1 : ribE r = 0 := by
  by_cases h : ribE r = 0
  ·exact h
  ·unfold cotE at hb; rw [if_pos h] at hb; exact absurd hb h
 have h2 : treeE r.g t = 0 := by
  by_cases h : treeE r.g t = 0
  ·exact h
  ·unfold cotE at hb; rw [if_neg (by omega), if_pos h] at hb; exact absurd hb h
 have e : cotE r t = dualE r := by unfold cotE; rw [if_neg (by omega), if_neg (by omega)]
 have hT := tCheck_ok r.g t hs.es (by omega)
 have hD := rDual_ok r hs
 rw [if_neg (by omega), h1] at hC
 have er : cotR r t = sortI (cotL (dualN r) t (dualN r).length) := if_neg (by omega)
 rw [er, hb]
 rw [e] at hb
 rw [h2] at hT
 rw [hb] at hD
 have hlen : (endsL r.es).length ≤ 2000 := ends_len (g := r.g) hs.es (rok_of h1).c
 have hNl : (endsL r.es).length = (dualN r).length := by
  unfold dualN
  rw [if_neg (by omega), numI_len, joinsR_len]
 generalize dualD r = D at *
 generalize dualN r = N at *
 generalize endsL r.es = L at *
 clear hs h1 h2 hb e er
 obtain ⟨dn, des, dar⟩ := D
 obtain ⟨n, es, ar⟩ := r
 simp only [R.g, tR] at hT hD
 refine ACallX.of_body Tryz.func40 rfl (by kernel_rfl) (by simp [isMap]) ?_
 simp only [entry, Tryz.ntmps40, ofT, ofT1, ofTree, List.map_cons, List.map_nil, List.length_cons, List.length_nil, Nat.reduceAdd, Nat.reduceSub, List.replicate_succ, List.replicate_zero, List.cons_append, List.nil_append, tR, tints]
 refine FWp.seq ?_
 refine zR trivial trivial trivial ?_
 refine FWp.seq ?_
 refine zR trivial (zc hC trivial) trivial ?_
 refine FWp.seq ?_
 refine zR trivial trivial trivial ?_
 refine FWp.seq ?_
 refine zR trivial (zc hT trivial) trivial ?_
 refine FWp.seq ?_
 refine zR trivial (zc hD trivial) trivial ?_
 refine FWp.seq ?_
 refine zR trivial trivial trivial ?_
 refine FWp.seq ?_
 refine zR trivial trivial trivial ?_
 refine FWp.seq ?_
 refine zR (zc @pRows_len (zc @hNl trivial)) trivial trivial ?_
 refine AWp.weak (Weak.opens ((fun t f => [f, f, f, f, f, f, f, f, f, f, f, t, f, f, f, f, f, f, f, f, f, f, f, f, f, f, f, f, f, f, f, f, f, f, f, f, f, f, f, f, f, f, f, f, f, f, f, f, f, f, f, f, f, f, f, f, f]) true false) 1 (by first | omega | simp)) ?_
 simp only [openS, openV, List.length_cons, List.length_nil, List.length_append, Nat.reduceAdd, List.cons_append, List.nil_append]
 refine AWp.loopS (α:=Nat) 57 (fun i=>[(1,.c (.slice (iRows t) .none)),(10,.c (.slice (iRows N) .none)),(11,.c (.slice (iRows (cotL N t i)) (.chain 2))),(38,.c (.int .i64 (N.length : Int))),(39,.c (.int .i64 (i : Int)))]) (fun i=>[.box [.int .i64 n, .slice (eRows es) .none, .slice (llRows ar) .none], .box [.int .i64 dn, .slice (eRows des) .none, .slice (llRows dar) .none], .chain (cotL N t i).length 1]) (fun i=>i ≤ N.length) (fun i=>N.length - i) (0) (hk:=Weak.headL 3 57 [1, 10, 11, 38, 39] zW) (h0:=?_) (round:=fun i hI=>?_)
 ·exact Nat.zero_le _
 ·have hi : i ≤ N.length := hI
  clear hI
  have hcl := cotL_len N t i
  by_cases hlt : i < N.length
  ·have hltI : (i : Int) < N.length := by omega
   have e0 := List.getElem?_eq_getElem hlt
   have e1 := iRows_get e0
   have hH := Contains_ok t (i : Int) (by omega)
   by_cases hm : (i : Int) ∈ t
   ·have hc := cotL_in (N := N) hm
    rw [decide_eq_true hm] at hH
    generalize cotL N t i = C at *
    refine zR (zc @hltI (zc @iRows_len trivial)) (zc hH trivial) trivial ?_
    refine ⟨i + 1,Weak.headF 3 57 [1, 10, 11, 38, 39] (zc @hc trivial) zW,?_,?_⟩
    ·exact hlt
    ·omega
   ·have hc := cotL_out (N := N) hm
    rw [decide_eq_false hm] at hH
    rw [List.getD_eq_getElem?_getD, e0, Option.getD_some] at hc
    have hcs := iRows_snoc (cotL N t i) N[i]
    rw [← hc] at hcs
    have hcl2 : (cotL N t (i + 1)).length = (cotL N t i).length + 1 := by rw [hc]; simp
    generalize N[i] = x at *
    generalize hC2 : cotL N t (i + 1) = C2 at *
    generalize cotL N t i = C at *
    refine zRc (zc @hltI (zc @iRows_len (zc @e1 (zc @hcs trivial)))) (zc hH trivial) @iRows_k' ?_
    refine ⟨i + 1,Weak.headF 3 57 [1, 10, 11, 38, 39] (zc @hC2 (zc @hcl2 trivial)) zW,?_,?_⟩
    ·exact hlt
    ·omega
  ·have ei : i = N.length := by omega
   have hnl : ¬ ((i : Int) < (N.length : Int)) := by omega
   have hcl2 := cotL_len N t N.length
   rw [ei] at hnl ⊢
   generalize cotL N t N.length = C at *
   refine zR (zc @hnl trivial) trivial trivial ?_
   by_cases hCn : C = []
   ·subst hCn
    refine FWp.seq ?_
    repeat' (first|((first|(refine zT ?_;intro K' hK')|(refine zG ?_ ?_<;>(try refine zH ?_)<;>intro hguard<;>(try exact zX)<;>try intro K' hK'))<;>((try simp +contextual only [go_sem, iRows, List.map_nil]);(repeat' first|(with_reducible refine hK' _ _ ?_;clear hK' K')|(with_reducible refine zK SortI_none ?_;try simp +contextual only [go_sem, iRows, List.map_nil])|exact zY|with_reducible refine And.intro ?_ ?_|(with_reducible intro hpath;try exact zP)|(refine hK' _ _ ?_;clear hK' K')|fail);try refine zS ?_))|(refine zE ?_;refine hK _ _ ?_;clear hK K)|(refine zN ?_;try refine zS ?_)|refine zA ?_|(refine zB ?_;intro K hK)|(refine zC ?_ ?_<;>(try refine zH ?_)<;>intro hcond<;>try exact zX)|fail)
    refine FWp.of_awp ?_
    refine zR trivial trivial trivial ?_
    have hz : sortI [] = [] := List.Perm.eq_nil (sortI_perm [])
    simp [XRets, aretX, Blk.cells, ty, Tryz.results40, ares, toT1, toT, freshT, toTree0, Tree.flat, tint, tints, hz, iRows]
   ·refine FWp.weak (Weak.dead 0 rfl (Nat.zero_le _)) ?_
    refine FWp.weak (Weak.dead 1 rfl (Nat.zero_le _)) ?_
    refine FWp.weak (Weak.head2 (m := 3) (by omega) ((fun t f => [f, f, f, f, f, f, f, f, f, f, f, t, f, f, f, f, f, f, f, f, f, f, f, f, f, f, f, f, f, f, f, f, f, f, f, f, f, f, f, f, f, f, f, f, f, f, f, f, f, f, f, f, f, f, f, f, f]) true false) rfl rfl zW) ?_
    simp only [mask, List.take_succ_cons, List.take_zero, List.set_cons_succ, List.set_cons_zero]
    refine FWp.thawT 11 rfl rfl (fun r hr => iRows_k' hr) (by decide) (fun r hr => flatRow_spec (intRow_flat hr)) (by simp [iRows, hCn]) (safe_all (by simp [safeB, safeC])) (by simp [safeV, safeC, safeV1]) (fun id h => absurd h (Nat.not_lt_zero _)) (fun cap hcap => ?_)
    rw [iRows_len] at hcap
    have hsl2 : (sortI C).length = C.length := (sortI_perm C).length_eq
    refine FWp.seq ?_
    repeat' (first|((first|(refine zT ?_;intro K' hK')|(refine zG ?_ ?_<;>(try refine zH ?_)<;>intro hguard<;>(try exact zX)<;>try intro K' hK'))<;>((try simp +contextual only [go_sem, iRows_len]);(repeat' first|(with_reducible refine hK' _ _ ?_;clear hK' K')|((with_reducible first|refine ⟨_,_,SortI_ok C (by omega) rfl,?_⟩|refine ⟨_,SortI_ok C (by omega) rfl,?_⟩);try simp +contextual only [go_sem, iRows_len])|exact zY|with_reducible refine And.intro ?_ ?_|(with_reducible intro hpath;try exact zP)|(refine hK' _ _ ?_;clear hK' K')|fail);try refine zS ?_))|(refine zE ?_;refine hK _ _ ?_;clear hK K)|(refine zN ?_;try refine zS ?_)|refine zA ?_|(refine zB ?_;intro K hK)|(refine zC ?_ ?_<;>(try refine zH ?_)<;>intro hcond<;>try exact zX)|fail)
    refine FWp.of_awp ?_
    refine zR trivial trivial trivial ?_
    have hr := iRows_ref hsl2 hcap
    simp [XRets, aretX, Blk.cells, ty, Tryz.results40, ares, toT1, toT, freshT, toTree0, Tree.flat, tint, tints, iRows_len, hr]
theorem rCotree_ok (r : R) (hs : RSm r) (t : List Int) (ht : t.length ≤ 40) : ACall Tryz.prog 40 [tR r, tints t] (.tup [tints (cotR r t), tint (cotE r t)]) := by
 by_cases h : cotE r t = 0
 ·exact ACallX.toA (rCotree_x r hs t ht h)
 ·exact rCotree_bad r hs t ht h
end Go.Proofs.YtfkegnhpihoncaaGreat
set_option linter.all false
namespace Go.Proofs.YtfkegnhpihoncaaGreat
open Go.Sp
set_option linter.unusedSimpArgs false
set_option linter.unusedVariables false
set_option maxHeartbeats 4000000
set_option maxRecDepth 100000
theorem few_size {r : R} (hf : fewR r = true) (hc : checkG r.g = 0) : (endsL r.es).length ≤ 9 ∧ r.n ≤ 6 := by
 unfold fewR smallB at hf
 simp only [Bool.and_eq_true, Bool.or_eq_true, decide_eq_true_eq] at hf
 have h1 := hf.1.2
 rcases h1 with h1 | h1
 ·exact absurd hc h1
 ·exact ⟨by have := h1.2; show (endsL r.g.es).length ≤ 9; omega, h1.1⟩
structure Tw (r d b : R) (l m : List Int) (E B : Nat) : Prop where
 d1 : dualD r = d
 d2 : dualE r = 0
 d3 : dualN r = l
 b1 : dualD d = b
 b2 : dualE d = 0
 b3 : dualN d = m
 sd : RSm d
 sb : RSm b
 ed : ribE d = 0
 eb : ribE b = 0
 gen : genusR d = genusR r
 bn : b.n = r.n
 ll : l.length = E
 ml : m.length = E
 e9 : E ≤ 9
 eE : (endsL r.es).length = E
 lr : ∀ x, x ∈ l → 0 ≤ x ∧ x < E
 mr : ∀ x, x ∈ m → 0 ≤ x ∧ x < E
 br : ∀ w, w ∈ b.ar → ∀ x, x ∈ w → 0 ≤ x ∧ x < 2 * E
 hB : B < 2 ^ E
 test : sortLL (b.ar.map (renL (behI (invK l (flB E B) l.length) (invK m (List.replicate E false) m.length) (2 * E)))) = sortLL r.ar
def flK (E q i : Nat) : List Bool := (List.range E).map fun j => if j < i then decide (q / 2 ^ j % 2 = 1) else false
end Go.Proofs.YtfkegnhpihoncaaGreat
