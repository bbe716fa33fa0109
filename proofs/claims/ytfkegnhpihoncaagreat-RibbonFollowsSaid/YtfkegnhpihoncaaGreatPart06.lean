/- A part of the proof: contracts of functions of the program, and plain lemmas. -/
import Derived.Test.YtfkegnhpihoncaaGreatPart05
import Derived.Test.YtfkegnhpihoncaaGreatLayerC
import Derived.Test.YtfkegnhpihoncaaGreatPart02
import Derived.Test.YtfkegnhpihoncaaGreatPart01
set_option linter.all false
namespace Go.Proofs.YtfkegnhpihoncaaGreat
open Go.Sp
set_option linter.unusedSimpArgs false
set_option linter.unusedVariables false
set_option maxHeartbeats 4000000
set_option maxRecDepth 100000
theorem Min_ok (l : List Int) (hne : l ≠ []) (hl : l.length < 2 ^ 40) : ACall Tryz.prog 105 [tints l] (tint (l.getD (leastN l) 0)) := by
  have hp : 0 < l.length := List.length_pos_iff.2 hne
  have e0 := List.getElem?_eq_getElem hp
  have r0 := iRows_get e0
  have d0 : l.getD 0 0 = l[0] := by rw [List.getD_eq_getElem?_getD, e0]; rfl
  generalize l[0] = x0 at *
  refine ACall.of_body Tryz.func105 rfl (by kernel_rfl) ?_
  simp only [entry, Tryz.ntmps105, tints]
  refine zU ?_
  repeat' (first|((first|(refine zT ?_;intro K' hK')|(refine zG ?_ ?_<;>(try refine zH ?_)<;>intro hguard<;>(try exact zX)<;>try intro K' hK'))<;>((try simp +contextual only [go_sem, iRows_len, r0, Int.toNat_zero]);(repeat' first|(with_reducible refine hK' _ _ ?_;clear hK' K')|exact zY|with_reducible refine And.intro ?_ ?_|(with_reducible intro hpath;try exact zP)|(refine hK' _ _ ?_;clear hK' K')|fail);try refine zS ?_))|(refine zE ?_;refine hK _ _ ?_;clear hK K)|(refine zN ?_;try refine zS ?_)|refine zA ?_|(refine zB ?_;intro K hK)|(refine zC ?_ ?_<;>(try refine zH ?_)<;>intro hcond<;>try exact zX)|fail)
  have hx0 : x0 = l.getD (leastGo l 0) 0 := d0.symm
  rw [hx0]
  refine AWp.loopx (α:=Nat) (fun i=>(⟨.c (.slice (iRows l) .none) :: .c .any :: .c .any :: .c (.int .i64 (l.getD (leastGo l i) 0)) :: .c (.int .i64 ((i : Int) + 1)) :: .c .any :: .c .any :: .c .any :: .c .any :: .c .any :: .c .any :: .c .any :: .c .any :: .c .any :: .c .any :: .c .any :: .c .any :: .c .any :: .c .any :: .c .any :: .c .any :: .c .any :: .c .any :: .c .any :: .c .any :: [],[]⟩:St)) (fun i=>i < l.length) (fun i=>l.length - i) (0) (Weak.headL 0 25 [0, 3, 4] zW) ?_ (fun i hI=>?_)
  · exact hp
  · by_cases hlt : i + 1 < l.length
    · have hltI : (i : Int) + 1 < l.length := by omega
      have e1 := List.getElem?_eq_getElem hlt
      have r1 := iRows_get e1
      have d1 : l.getD (i + 1) 0 = l[i + 1] := by rw [List.getD_eq_getElem?_getD, e1]; rfl
      have hnx : l.getD (leastGo l (i + 1)) 0 = min (l.getD (leastGo l i) 0) (l.getD (i + 1) 0) := by
        simp only [leastGo]; split <;> omega
      rw [d1] at hnx
      have ht : ((i : Int) + 1).toNat = i + 1 := by omega
      generalize l[i + 1] = y at *
      generalize l.getD (leastGo l i) 0 = m at *
      repeat' (first|((first|(refine zT ?_;intro K' hK')|(refine zG ?_ ?_<;>(try refine zH ?_)<;>intro hguard<;>(try exact zX)<;>try intro K' hK'))<;>((try simp +contextual only [go_sem, hltI, iRows_len, r1, ht]);(repeat' first|(with_reducible refine hK' _ _ ?_;clear hK' K')|exact zY|with_reducible refine And.intro ?_ ?_|(with_reducible intro hpath;try exact zP)|(refine hK' _ _ ?_;clear hK' K')|fail);try refine zS ?_))|(refine zE ?_;refine hK _ _ ?_;clear hK K)|(refine zN ?_;try refine zS ?_)|refine zA ?_|(refine zB ?_;intro K hK)|(refine zC ?_ ?_<;>(try refine zH ?_)<;>intro hcond<;>try exact zX)|fail)
      refine ⟨i + 1,Weak.headN 0 25 [0, 3, 4] zW (e1:=by first|rfl|(simp [mask,keepL, hnx];done)|(simp [mask,keepL, hnx]<;>simp_all<;>omega)) (e2:=by first|rfl|(simp [mask,keepL, hnx];done)|(simp [mask,keepL, hnx]<;>simp_all<;>omega)),?_,?_⟩
      · omega
      · omega
    · have ei : leastN l = leastGo l i := by unfold leastN; congr 1; omega
      have hnl : ¬ ((i : Int) + 1 < l.length) := by omega
      rw [ei]
      repeat' (first|((first|(refine zT ?_;intro K' hK')|(refine zG ?_ ?_<;>(try refine zH ?_)<;>intro hguard<;>(try exact zX)<;>try intro K' hK'))<;>((try simp +contextual only [go_sem, hnl, iRows_len]);(repeat' first|(with_reducible refine hK' _ _ ?_;clear hK' K')|exact zY|with_reducible refine And.intro ?_ ?_|(with_reducible intro hpath;try exact zP)|(refine hK' _ _ ?_;clear hK' K')|fail);try refine zS ?_))|(refine zE ?_;refine hK _ _ ?_;clear hK K)|(refine zN ?_;try refine zS ?_)|refine zA ?_|(refine zB ?_;intro K hK)|(refine zC ?_ ?_<;>(try refine zH ?_)<;>intro hcond<;>try exact zX)|fail)
      simp [Rets, aret, Blk.cells, ty, Tryz.results105, ares, toT1, toT, borrow, borrow0, capCell, toTree0, tint]
theorem Grow_ok (H : List Blk) (n : Nat) (h0 : 0 < n) (hn : n < 2 ^ 30) : ACallH Tryz.prog 142 H [.c .nils, .c (.int .i64 n)] (H ++ [.box (List.replicate n (.int .i64 0))]) (.c (.ref H.length 1 0 0 n)) := by
  have h0I : (0 : Int) < n := by omega
  have h1I : ¬ ((n : Int) < 0) := by omega
  refine ACallH.of_body Tryz.func142 rfl (by kernel_rfl) ?_
  simp only [entry, Tryz.ntmps142, List.length_cons, List.length_nil, Nat.reduceAdd, Nat.reduceSub, List.replicate_succ, List.replicate_zero, List.cons_append, List.nil_append]
  repeat' (first|((with_reducible refine AWp.seq (AWp.of_reg (id:=3) (AReg.pre 2 (fun K hK=>?_))));simp only [List.take_succ_cons,List.take_zero])|((with_reducible refine AWp.of_reg (id:=3) (AReg.pre 2 (fun K hK=>?_)));simp only [List.take_succ_cons,List.take_zero])|((first|(refine zT ?_;intro K' hK')|(refine zG ?_ ?_<;>(try refine zH ?_)<;>intro hguard<;>(try exact zX)<;>try intro K' hK'))<;>((try simp +contextual only [go_sem, h1I, h0I]);(repeat' first|(with_reducible refine hK' _ _ ?_;clear hK' K')|exact zY|with_reducible refine And.intro ?_ ?_|(with_reducible intro hpath;try exact zP)|(refine hK' _ _ ?_;clear hK' K')|fail);try refine zS ?_))|(refine zE ?_;refine hK _ _ ?_;clear hK K)|(refine zN ?_;try refine zS ?_)|refine zA ?_|(refine zB ?_;intro K hK)|(refine zC ?_ ?_<;>(try refine zH ?_)<;>intro hcond<;>try exact zX)|fail)
  simp only [List.drop_succ_cons, List.drop_zero]
  refine AReg.step (rv := .c (.int .i64 0)) (H' := H) rfl rfl (step_cap_nil (e := 3) _ _ rfl (by simp only [ty]) rfl) ?_
  refine AReg.rest (fun K hK => ?_)
  have e0 : (n : Int) - (0 - ((0 : Nat) : Int)) = n := by omega
  repeat' (first|((with_reducible refine AWp.seq (AWp.of_reg (id:=5) (AReg.pre 2 (fun K hK=>?_))));simp only [List.take_succ_cons,List.take_zero])|((with_reducible refine AWp.of_reg (id:=5) (AReg.pre 2 (fun K hK=>?_)));simp only [List.take_succ_cons,List.take_zero])|((first|(refine zT ?_;intro K' hK')|(refine zG ?_ ?_<;>(try refine zH ?_)<;>intro hguard<;>(try exact zX)<;>try intro K' hK'))<;>((try simp +contextual only [go_sem, h1I, h0I, e0]);(repeat' first|(with_reducible refine hK' _ _ ?_;clear hK' K')|exact zY|with_reducible refine And.intro ?_ ?_|(with_reducible intro hpath;try exact zP)|(refine hK' _ _ ?_;clear hK' K')|fail);try refine zS ?_))|(refine zE ?_;refine hK _ _ ?_;clear hK K)|(refine zN ?_;try refine zS ?_)|refine zA ?_|(refine zB ?_;intro K hK)|(refine zC ?_ ?_<;>(try refine zH ?_)<;>intro hcond<;>try exact zX)|fail)
  simp only [List.drop_succ_cons, List.drop_zero]
  refine AReg.step (rv := .c (.int .i64 0)) (H' := H) rfl rfl (step_cap_nil (e := 3) _ _ rfl (by simp only [ty]) rfl) ?_
  refine AReg.step (rv := .c .nils) (H' := H) rfl rfl (step_part_nil (e := 3) _ _ _ rfl (by simp only [ty]) (by simp only [ty]) rfl rfl) ?_
  refine AReg.pre 1 (fun K hK => ?_)
  simp only [List.take_succ_cons, List.take_zero]
  repeat' (first|((first|(refine zT ?_;intro K' hK')|(refine zG ?_ ?_<;>(try refine zH ?_)<;>intro hguard<;>(try exact zX)<;>try intro K' hK'))<;>((try simp +contextual only [go_sem]);(repeat' first|(with_reducible refine hK' _ _ ?_;clear hK' K')|exact zY|with_reducible refine And.intro ?_ ?_|(with_reducible intro hpath;try exact zP)|(refine hK' _ _ ?_;clear hK' K')|fail);try refine zS ?_))|(refine zE ?_;refine hK _ _ ?_;clear hK K)|(refine zN ?_;try refine zS ?_)|fail)
  simp only [List.drop_succ_cons, List.drop_zero]
  refine AReg.step (rv := .c (.ref H.length 1 0 n n)) (H' := H ++ [.box (List.replicate n (.int .i64 0))]) rfl rfl (step_append_made (e := 3) (by' := 8) (k0 := .i64) _ _ _ _ rfl (by simp only [ty]) (by simp only [ty]) (by simp only [ty]) (by simp only [ty]) (by simp only [ty]) rfl rfl h0 (by omega) (by omega)) ?_
  refine AReg.pre 2 (fun K hK => ?_)
  simp only [List.take_succ_cons, List.take_zero]
  repeat' (first|((first|(refine zT ?_;intro K' hK')|(refine zG ?_ ?_<;>(try refine zH ?_)<;>intro hguard<;>(try exact zX)<;>try intro K' hK'))<;>((try simp +contextual only [go_sem]);(repeat' first|(with_reducible refine hK' _ _ ?_;clear hK' K')|exact zY|with_reducible refine And.intro ?_ ?_|(with_reducible intro hpath;try exact zP)|(refine hK' _ _ ?_;clear hK' K')|fail);try refine zS ?_))|(refine zE ?_;refine hK _ _ ?_;clear hK K)|(refine zN ?_;try refine zS ?_)|fail)
  simp only [List.drop_succ_cons, List.drop_zero]
  refine AReg.step (rv := .c (.ref H.length 1 0 0 n)) (H' := H ++ [.box (List.replicate n (.int .i64 0))]) rfl rfl (step_slice_ref (e := 3) (l := 0) (h := 0) _ _ _ _ rfl (by simp only [ty]) (by simp only [ty]) rfl rfl rfl (Nat.le_refl _) (Nat.zero_le _) (Nat.le_refl _) (.inl rfl)) ?_
  refine AReg.rest (fun K hK => ?_)
  repeat' (first|((first|(refine zT ?_;intro K' hK')|(refine zG ?_ ?_<;>(try refine zH ?_)<;>intro hguard<;>(try exact zX)<;>try intro K' hK'))<;>((try simp +contextual only [go_sem]);(repeat' first|(with_reducible refine hK' _ _ ?_;clear hK' K')|exact zY|with_reducible refine And.intro ?_ ?_|(with_reducible intro hpath;try exact zP)|(refine hK' _ _ ?_;clear hK' K')|fail);try refine zS ?_))|(refine zE ?_;refine hK _ _ ?_;clear hK K)|(refine zN ?_;try refine zS ?_)|refine zA ?_|(refine zB ?_;intro K hK)|(refine zC ?_ ?_<;>(try refine zH ?_)<;>intro hcond<;>try exact zX)|fail)
  simp [RetsH, aretH, ares, noTup, Tryz.results142]
end Go.Proofs.YtfkegnhpihoncaaGreat
set_option linter.all false
namespace Go.Proofs.YtfkegnhpihoncaaGreat
open Go.Sp
set_option linter.unusedSimpArgs false
set_option linter.unusedVariables false
set_option maxHeartbeats 4000000
set_option maxRecDepth 100000
theorem setMany_mid (pre mid post new : List ACell) (h : new.length = mid.length) : setMany (pre ++ mid ++ post) pre.length new = pre ++ new ++ post := by
  apply List.ext_getElem?
  intro i
  rw [setMany_get _ _ _ _ (by simp; omega)]
  by_cases h1 : i < pre.length
  · rw [if_neg (by omega), List.append_assoc, List.append_assoc, List.getElem?_append_left h1, List.getElem?_append_left h1]
  · by_cases h2 : i < pre.length + new.length
    · rw [if_pos ⟨by omega, h2⟩, List.append_assoc, List.getElem?_append_right (by omega), List.getElem?_append_left (by omega)]
    · rw [if_neg (by omega), List.getElem?_append_right (by simp; omega), List.getElem?_append_right (l₁ := pre ++ new) (by simp; omega)]
      simp [h]
theorem flat_iRows (l : List Int) : flatRows (iRows l) = iC l := by
  unfold flatRows iRows iC
  induction l with
  | nil => rfl
  | cons x l ih => simp only [List.map_cons, List.flatten_cons, List.map_append, ih]; rfl
theorem iC_app (a b : List Int) : iC (a ++ b) = iC a ++ iC b := by simp [iC]
theorem iC_rep (n : Nat) (x : Int) : iC (List.replicate n x) = List.replicate n (.int .i64 x) := by simp [iC]
theorem iC_put (A l : List Int) (m : Nat) : setMany (iC (A ++ List.replicate (l.length + m) 0)) A.length (iC l) = iC (A ++ l ++ List.replicate m 0) := by
  have e : List.replicate (l.length + m) (0 : Int) = List.replicate l.length 0 ++ List.replicate m 0 := List.replicate_append_replicate.symm
  rw [e, ← List.append_assoc, iC_app, iC_app, iC_app, iC_app]
  have := setMany_mid (iC A) (iC (List.replicate l.length 0)) (iC (List.replicate m 0)) (iC l) (by simp [iC_len])
  rwa [iC_len] at this
def catT (ls : List (List Int)) (i : Nat) : List Int := (ls.take i).flatten
theorem catT_all (ls : List (List Int)) : catT ls ls.length = ls.flatten := by unfold catT; rw [List.take_length]
theorem Concat_ok (ls : List (List Int)) (h0 : 0 < ls.flatten.length) (hn : ls.flatten.length < 2 ^ 30) (hl : ls.length < 2 ^ 20) : ACall Tryz.prog 106 [tlists ls] (tints ls.flatten) := by
  have htake : ∀ i, i < ls.length → catT ls (i + 1) = catT ls i ++ ls.getD i [] := fun i hi => by
    unfold catT; rw [List.take_succ_eq_append_getElem hi, List.flatten_append, List.getD_eq_getElem?_getD, List.getElem?_eq_getElem hi]; simp
  have hle : ∀ i : Nat, (catT ls i).length ≤ ls.flatten.length := fun i => by
    unfold catT
    have := congrArg List.flatten (List.take_append_drop i ls)
    rw [List.flatten_append] at this
    have := congrArg List.length this
    rw [List.length_append] at this; omega
  refine ACall.of_body Tryz.func106 rfl (by kernel_rfl) ?_
  simp only [entry, Tryz.ntmps106, tlists]
  refine zU ?_
  repeat' (first|((first|(refine zT ?_;intro K' hK')|(refine zG ?_ ?_<;>(try refine zH ?_)<;>intro hguard<;>(try exact zX)<;>try intro K' hK'))<;>((try simp +contextual only [go_sem, llRows_len]);(repeat' first|(with_reducible refine hK' _ _ ?_;clear hK' K')|exact zY|with_reducible refine And.intro ?_ ?_|(with_reducible intro hpath;try exact zP)|(refine hK' _ _ ?_;clear hK' K')|fail);try refine zS ?_))|(refine zE ?_;refine hK _ _ ?_;clear hK K)|(refine zN ?_;try refine zS ?_)|refine zA ?_|(refine zB ?_;intro K hK)|(refine zC ?_ ?_<;>(try refine zH ?_)<;>intro hcond<;>try exact zX)|fail)
  refine AWp.loopx (α:=Nat) (fun i=>(⟨.c (.slice (llRows ls) .none) :: .c .any :: .c .any :: .c (.int .i64 ((catT ls i).length : Int)) :: .c .any :: .c .any :: .c .any :: .c .any :: .c .any :: .c (.slice (llRows ls) .none) :: .c (.int .i64 (ls.length : Int)) :: .c (.int .i64 (i : Int)) :: .c .any :: .c .any :: .c .any :: .c .any :: .c .any :: .c .any :: .c .any :: .c .any :: .c .any :: .c .any :: .c .any :: .c .any :: .c .any :: .c .any :: .c .any :: .c .any :: .c .any :: .c .any :: .c .any :: .c .any :: .c .any :: .c .any :: .c .any :: .c .any :: [],[]⟩:St)) (fun i=>i ≤ ls.length) (fun i=>ls.length - i) (0) (Weak.headL 0 36 [0, 3, 9, 10, 11] (by (repeat' (first | exact valsIn_nil _ | exact blksIn_nil _ | exact cellsIn_nil _ | refine And.intro ?_ ?_ | refine valsIn_cons ?_ ?_ | refine blksIn_cons ?_ ?_ | refine cellsIn_cons ?_ ?_ | exact True.intro | exact iC_in | (show _ < _; omega) | exact cellsIn_map (fun _ => True.intro) | (intro c hc; cases hc; done) | (intro c hc; simp only [List.mem_cons, List.not_mem_nil, or_false] at hc; subst hc; exact True.intro) | (intro c hc; simp only [List.mem_cons, List.not_mem_nil, or_false] at hc; rcases hc with rfl | rfl <;> exact True.intro))))) ?_ (fun i hI=>?_)
  · exact Nat.zero_le _
  · have hi : i ≤ ls.length := hI
    clear hI
    by_cases hlt : i < ls.length
    · have hltI : (i : Int) < ls.length := by omega
      have e0 := List.getElem?_eq_getElem hlt
      have e1 := llRows_get e0
      have ht := htake i hlt
      have hl1 := hle (i + 1)
      rw [List.getD_eq_getElem?_getD, e0, Option.getD_some] at ht
      rw [ht, List.length_append] at hl1
      have hc : ((catT ls i).length : Int) + (ls[i].length : Int) = ((catT ls (i + 1)).length : Int) := by rw [ht, List.length_append]; omega
      have hge : ¬ (((catT ls (i + 1)).length : Int) < 0) := by omega
      generalize ls[i] = l at *
      generalize catT ls i = A at *
      repeat' (first|((first|(refine zT ?_;intro K' hK')|(refine zG ?_ ?_<;>(try refine zH ?_)<;>intro hguard<;>(try exact zX)<;>try intro K' hK'))<;>((try simp +contextual only [go_sem, hltI, llRows_len, iRows_len, e1, Int.toNat_natCast, hc, hge]);(repeat' first|(with_reducible refine hK' _ _ ?_;clear hK' K')|exact zY|with_reducible refine And.intro ?_ ?_|(with_reducible intro hpath;try exact zP)|(refine hK' _ _ ?_;clear hK' K')|fail);try refine zS ?_))|(refine zE ?_;refine hK _ _ ?_;clear hK K)|(refine zN ?_;try refine zS ?_)|refine zA ?_|(refine zB ?_;intro K hK)|(refine zC ?_ ?_<;>(try refine zH ?_)<;>intro hcond<;>try exact zX)|fail)
      refine ⟨i + 1,Weak.headN 0 36 [0, 3, 9, 10, 11] (by (repeat' (first | exact valsIn_nil _ | exact blksIn_nil _ | exact cellsIn_nil _ | refine And.intro ?_ ?_ | refine valsIn_cons ?_ ?_ | refine blksIn_cons ?_ ?_ | refine cellsIn_cons ?_ ?_ | exact True.intro | exact iC_in | (show _ < _; omega) | exact cellsIn_map (fun _ => True.intro) | (intro c hc; cases hc; done) | (intro c hc; simp only [List.mem_cons, List.not_mem_nil, or_false] at hc; subst hc; exact True.intro) | (intro c hc; simp only [List.mem_cons, List.not_mem_nil, or_false] at hc; rcases hc with rfl | rfl <;> exact True.intro)))),?_,?_⟩
      · exact hlt
      · omega
    · have ei : i = ls.length := by omega
      subst ei
      have hnl : ¬ ((ls.length : Int) < ls.length) := by omega
      rw [catT_all]
      have hG := Grow_ok [] ls.flatten.length h0 hn
      repeat' (first|((first|(refine zT ?_;intro K' hK')|(refine zG ?_ ?_<;>(try refine zH ?_)<;>intro hguard<;>(try exact zX)<;>try intro K' hK'))<;>((try simp +contextual only [go_sem, hnl, llRows_len]);(repeat' first|(with_reducible refine hK' _ _ ?_;clear hK' K')|((with_reducible first|refine ⟨_,_,hG,?_⟩|refine ⟨_,hG,?_⟩);try simp +contextual only [go_sem, hnl, llRows_len])|exact zY|with_reducible refine And.intro ?_ ?_|(with_reducible intro hpath;try exact zP)|(refine hK' _ _ ?_;clear hK' K')|fail);try refine zS ?_))|(refine zE ?_;refine hK _ _ ?_;clear hK K)|(refine zN ?_;try refine zS ?_)|refine zA ?_|(refine zB ?_;intro K hK)|(refine zC ?_ ?_<;>(try refine zH ?_)<;>intro hcond<;>try exact zX)|fail)
      try simp only [List.nil_append, List.length_nil]
      rw [← iC_rep]
      refine AWp.loopx (α:=Nat) (fun i=>(⟨.c .any :: .c .any :: .c .any :: .c .any :: .c .any :: .c .any :: .c (.ref 0 1 0 (catT ls i).length ls.flatten.length) :: .c .any :: .c .any :: .c .any :: .c .any :: .c .any :: .c .any :: .c .any :: .c .any :: .c .any :: .c .any :: .c .any :: .c .any :: .c .any :: .c .any :: .c .any :: .c .any :: .c .any :: .c .any :: .c (.slice (llRows ls) .none) :: .c (.int .i64 (ls.length : Int)) :: .c (.int .i64 (i : Int)) :: .c .any :: .c .any :: .c .any :: .c .any :: .c .any :: .c .any :: .c .any :: .c .any :: [],[.box (iC (catT ls i ++ List.replicate (ls.flatten.length - (catT ls i).length) 0))]⟩:St)) (fun i=>i ≤ ls.length) (fun i=>ls.length - i) (0) (Weak.headL 1 36 [6, 25, 26, 27] (by (repeat' (first | exact valsIn_nil _ | exact blksIn_nil _ | exact cellsIn_nil _ | refine And.intro ?_ ?_ | refine valsIn_cons ?_ ?_ | refine blksIn_cons ?_ ?_ | refine cellsIn_cons ?_ ?_ | exact True.intro | exact iC_in | (show _ < _; omega) | exact cellsIn_map (fun _ => True.intro) | (intro c hc; cases hc; done) | (intro c hc; simp only [List.mem_cons, List.not_mem_nil, or_false] at hc; subst hc; exact True.intro) | (intro c hc; simp only [List.mem_cons, List.not_mem_nil, or_false] at hc; rcases hc with rfl | rfl <;> exact True.intro))))) ?_ (fun i hI=>?_)
      · exact Nat.zero_le _
      · have hi : i ≤ ls.length := hI
        clear hI
        by_cases hlt : i < ls.length
        · have hltI : (i : Int) < ls.length := by omega
          have e0 := List.getElem?_eq_getElem hlt
          have e1 := llRows_get e0
          have ht := htake i hlt
          have hl1 := hle (i + 1)
          rw [List.getD_eq_getElem?_getD, e0, Option.getD_some] at ht
          rw [ht, List.length_append] at hl1
          have hm : ls.flatten.length - (catT ls i).length = ls[i].length + (ls.flatten.length - (catT ls (i + 1)).length) := by rw [ht, List.length_append]; omega
          have hp := iC_put (catT ls i) ls[i] (ls.flatten.length - (catT ls (i + 1)).length)
          rw [← hm, ← ht] at hp
          have hlen : (catT ls (i + 1)).length = (catT ls i).length + ls[i].length := by rw [ht, List.length_append]
          generalize ls[i] = l at *
          generalize hB : catT ls (i + 1) = B at *
          generalize catT ls i = A at *
          generalize ls.flatten.length = n at *
          repeat' (first|((with_reducible refine AWp.seq (AWp.of_reg (id:=13) (AReg.pre 2 (fun K hK=>?_))));simp only [List.take_succ_cons,List.take_zero])|((with_reducible refine AWp.of_reg (id:=13) (AReg.pre 2 (fun K hK=>?_)));simp only [List.take_succ_cons,List.take_zero])|((first|(refine zT ?_;intro K' hK')|(refine zG ?_ ?_<;>(try refine zH ?_)<;>intro hguard<;>(try exact zX)<;>try intro K' hK'))<;>((try simp +contextual only [go_sem, hltI, llRows_len, iRows_len, e1, Int.toNat_natCast]);(repeat' first|(with_reducible refine hK' _ _ ?_;clear hK' K')|exact zY|with_reducible refine And.intro ?_ ?_|(with_reducible intro hpath;try exact zP)|(refine hK' _ _ ?_;clear hK' K')|fail);try refine zS ?_))|(refine zE ?_;refine hK _ _ ?_;clear hK K)|(refine zN ?_;try refine zS ?_)|refine zA ?_|(refine zB ?_;intro K hK)|(refine zC ?_ ?_<;>(try refine zH ?_)<;>intro hcond<;>try exact zX)|fail)
          simp only [List.drop_succ_cons, List.drop_zero]
          refine AReg.step rfl rfl (step_append_ref (e := 3) (e2 := 3) (rows := iRows l) _ _ _ _ rfl (by simp only [ty]) (by simp only [ty]) (by simp only [ty]) rfl rfl (fun r hr => iRows_k' hr) rfl (by rw [iRows_len]; omega) (by rw [iRows_len, iC_len, List.length_append, List.length_replicate]; omega)) ?_
          simp only [flat_iRows, Nat.zero_add, hp, iRows_len, ← hlen, List.set_cons_zero]
          refine AReg.rest (fun K hK => ?_)
          repeat' (first|((first|(refine zT ?_;intro K' hK')|(refine zG ?_ ?_<;>(try refine zH ?_)<;>intro hguard<;>(try exact zX)<;>try intro K' hK'))<;>((try simp +contextual only [go_sem, hltI]);(repeat' first|(with_reducible refine hK' _ _ ?_;clear hK' K')|exact zY|with_reducible refine And.intro ?_ ?_|(with_reducible intro hpath;try exact zP)|(refine hK' _ _ ?_;clear hK' K')|fail);try refine zS ?_))|(refine zE ?_;refine hK _ _ ?_;clear hK K)|(refine zN ?_;try refine zS ?_)|refine zA ?_|(refine zB ?_;intro K hK)|(refine zC ?_ ?_<;>(try refine zH ?_)<;>intro hcond<;>try exact zX)|fail)
          refine ⟨i + 1,Weak.headN 1 36 [6, 25, 26, 27] (by (repeat' (first | exact valsIn_nil _ | exact blksIn_nil _ | exact cellsIn_nil _ | refine And.intro ?_ ?_ | refine valsIn_cons ?_ ?_ | refine blksIn_cons ?_ ?_ | refine cellsIn_cons ?_ ?_ | exact True.intro | exact iC_in | (show _ < _; omega) | exact cellsIn_map (fun _ => True.intro) | (intro c hc; cases hc; done) | (intro c hc; simp only [List.mem_cons, List.not_mem_nil, or_false] at hc; subst hc; exact True.intro) | (intro c hc; simp only [List.mem_cons, List.not_mem_nil, or_false] at hc; rcases hc with rfl | rfl <;> exact True.intro)))) (e1:=by first|rfl|(simp [mask,keepL, hB];done)|(simp [mask,keepL, hB]<;>simp_all<;>omega)) (e2:=by first|rfl|(simp [mask,keepL, hB];done)|(simp [mask,keepL, hB]<;>simp_all<;>omega)),?_,?_⟩
          · exact hlt
          · omega
        · have ei : i = ls.length := by omega
          subst ei
          have hnl : ¬ ((ls.length : Int) < ls.length) := by omega
          have hz : iC (catT ls ls.length ++ List.replicate (ls.flatten.length - (catT ls ls.length).length) 0) = iC ls.flatten := by rw [catT_all, Nat.sub_self, List.replicate_zero, List.append_nil]
          rw [hz, catT_all]
          repeat' ((fail_if_success (with_reducible refine AWp.atSeq 15 ?_));(fail_if_success (with_reducible refine AWp.atLast 15 ?_));first|((first|(refine zT ?_;intro K' hK')|(refine zG ?_ ?_<;>(try refine zH ?_)<;>intro hguard<;>(try exact zX)<;>try intro K' hK'))<;>((try simp +contextual only [go_sem, hnl]);(repeat' first|(with_reducible refine hK' _ _ ?_;clear hK' K')|exact zY|with_reducible refine And.intro ?_ ?_|(with_reducible intro hpath;try exact zP)|(refine hK' _ _ ?_;clear hK' K')|fail);try refine zS ?_))|(refine zE ?_;refine hK _ _ ?_;clear hK K)|(refine zN ?_;try refine zS ?_)|refine zA ?_|(refine zB ?_;intro K hK)|(refine zC ?_ ?_<;>(try refine zH ?_)<;>intro hcond<;>try exact zX)|fail)
          refine AWp.freezeR 6 0 1 ls.flatten.length ls.flatten.length rfl rfl (iC_trees _) (iRows ls.flatten) (by rw [iRows_len]) (Nat.le_refl _) (fun r hr => iRows_k' hr) (iRows_pre _) ?_
          simp only [List.set_cons_succ, List.set_cons_zero]
          repeat' (first|((first|(refine zT ?_;intro K' hK')|(refine zG ?_ ?_<;>(try refine zH ?_)<;>intro hguard<;>(try exact zX)<;>try intro K' hK'))<;>((try simp +contextual only [go_sem]);(repeat' first|(with_reducible refine hK' _ _ ?_;clear hK' K')|exact zY|with_reducible refine And.intro ?_ ?_|(with_reducible intro hpath;try exact zP)|(refine hK' _ _ ?_;clear hK' K')|fail);try refine zS ?_))|(refine zE ?_;refine hK _ _ ?_;clear hK K)|(refine zN ?_;try refine zS ?_)|refine zA ?_|(refine zB ?_;intro K hK)|(refine zC ?_ ?_<;>(try refine zH ?_)<;>intro hcond<;>try exact zX)|fail)
          simp [Rets, aret, Blk.cells, ty, Tryz.results106, ares, toT1, toT, borrow, borrow0, capCell, toTree0, tints]
end Go.Proofs.YtfkegnhpihoncaaGreat
set_option linter.all false
namespace Go.Proofs.YtfkegnhpihoncaaGreat
open Go.Sp
set_option linter.unusedSimpArgs false
set_option linter.unusedVariables false
set_option maxHeartbeats 4000000
set_option maxRecDepth 100000
theorem idx_at {l : List Int} (hn : l.Nodup) {i : Nat} {x : Int} (h : l[i]? = some x) : l.idxOf x = i := by
  obtain ⟨hi, e⟩ := List.getElem?_eq_some_iff.1 h
  obtain ⟨q1, q2⟩ := getD_idx (List.mem_of_getElem? h)
  have := (List.getElem?_eq_some_iff.1 q2).2
  exact nodup_at hn q1 hi (this.trans e.symm)
def gB (L : List (Int × Int)) (ar : List (List Int)) (v i h : Nat) : Int :=
  if atL L h < v ∨ (atL L h = v ∧ (ar.getD v []).idxOf (h : Int) < i) then nextR L ar h else 0
section
variable {r : R}
theorem gB_step (hr : ROk r) {v i : Nat} {l : List Int} {x : Int} (hl : r.ar[v]? = some l) (hx : l[i]? = some x) :
    (0 ≤ x ∧ x < 2 * ((endsL r.es).length : Int)) ∧ (∃ y, l[(i + 1) % l.length]? = some y ∧ (tabI (2 * (endsL r.es).length) (gB (endsL r.es) r.ar v i)).set x.toNat y = tabI (2 * (endsL r.es).length) (gB (endsL r.es) r.ar v (i + 1))) := by
  have hok := hr.l v l hl
  have hi := (List.getElem?_eq_some_iff.1 hx).1
  have hm := ownL_mem.1 (hok.sub x (List.mem_of_getElem? hx))
  have hm2 : x < 2 * ((endsL r.es).length : Int) := by have := hm.2.1; omega
  have hgl : r.ar.getD v [] = l := by rw [List.getD_eq_getElem?_getD, hl]; rfl
  have hidx := idx_at hok.nd hx
  refine ⟨⟨hm.1, hm2⟩, ?_⟩
  have hml : (i + 1) % l.length < l.length := Nat.mod_lt _ (by omega)
  have hnx : nextR (endsL r.es) r.ar x.toNat = l[(i + 1) % l.length] := by
    unfold nextR nextI
    rw [hm.2.2, Int.toNat_natCast, hgl, show ((x.toNat : Nat) : Int) = x by omega, hidx, List.getD_eq_getElem?_getD, List.getElem?_eq_getElem hml]; rfl
  refine ⟨_, List.getElem?_eq_getElem hml, ?_⟩
  rw [tabI_set _ _ (by omega)]
  refine tabI_congr fun j hj => ?_
  unfold gB
  by_cases e : j = x.toNat
  · subst e
    rw [if_pos rfl, if_pos (.inr ⟨hm.2.2, by rw [hgl, show ((x.toNat : Nat) : Int) = x by omega, hidx]; omega⟩), hnx]
  · rw [if_neg e]
    have hne : l.idxOf (j : Int) ≠ i := fun h => by
      have h1 : l.idxOf (j : Int) < l.length := by omega
      have h2 := List.getElem_idxOf h1
      have h3 := (List.getElem?_eq_some_iff.1 hx).2
      have h4 : l[l.idxOf (j : Int)] = l[i] := by congr 1
      rw [h2, h3] at h4
      omega
    rw [hgl]
    by_cases h1 : atL (endsL r.es) j < v ∨ (atL (endsL r.es) j = v ∧ l.idxOf (j : Int) < i)
    · rw [if_pos h1, if_pos (by omega)]
    · rw [if_neg h1, if_neg (by omega)]
theorem gB_row (hr : ROk r) {v : Nat} {l : List Int} (hl : r.ar[v]? = some l) : tabI (2 * (endsL r.es).length) (gB (endsL r.es) r.ar v l.length) = tabI (2 * (endsL r.es).length) (gB (endsL r.es) r.ar (v + 1) 0) := by
  have hok := hr.l v l hl
  have hgl : r.ar.getD v [] = l := by rw [List.getD_eq_getElem?_getD, hl]; rfl
  refine tabI_congr fun j hj => ?_
  unfold gB
  rw [hgl]
  by_cases h : atL (endsL r.es) j = v
  · have hm : (j : Int) ∈ l := hok.sup _ (ownL_mem.2 ⟨by omega, by omega, by simpa using h⟩)
    rw [if_pos (.inr ⟨h, (getD_idx hm).1⟩), if_pos (.inl (by omega))]
  · by_cases h1 : atL (endsL r.es) j < v
    · rw [if_pos (.inl h1), if_pos (.inl (by omega))]
    · rw [if_neg (by omega), if_neg (by omega)]
theorem gB_zero (L : List (Int × Int)) (ar : List (List Int)) (hat : ∀ h, h < 2 * L.length → 0 ≤ atL L h) : List.replicate (2 * L.length) (0 : Int) = tabI (2 * L.length) (gB L ar 0 0) := by
  rw [tabI_rep]
  refine tabI_congr fun j hj => ?_
  have := hat j hj
  unfold gB
  rw [if_neg (by omega)]
theorem gB_all (hr : ROk r) : tabI (2 * (endsL r.es).length) (gB (endsL r.es) r.ar r.ar.length 0) = tabI (2 * (endsL r.es).length) (nextR (endsL r.es) r.ar) := by
  refine tabI_congr fun j hj => ?_
  have := atL_range hr.c hj
  have := hr.len
  unfold gB
  rw [if_pos (.inl (by omega))]
end
theorem tmodn (i n : Nat) : Int.tmod ((i : Int) + 1) (n : Int) = (((i + 1) % n : Nat) : Int) := rfl
theorem behind_ok (r : R) (hs : RSm r) (hr : ROk r) : ACall Tryz.prog 72 [tR r, tint (endsL r.es).length] (tints (tabI (2 * (endsL r.es).length) (nextR (endsL r.es) r.ar))) := by
  have hlen : (endsL r.es).length ≤ 2000 := ends_len (g := r.g) hs.es hr.c
  have hz := gB_zero (endsL r.es) r.ar fun h hh => (atL_range hr.c hh).1
  have hst := fun v i l x => gB_step hr (v := v) (i := i) (l := l) (x := x)
  have hrow := fun v l => gB_row hr (v := v) (l := l)
  have hall := gB_all hr
  have hA := hs.ar
  have hLl := hs.l
  clear hs hr
  obtain ⟨n, es, ar⟩ := r
  simp only at hlen hz hst hrow hall hA hLl ⊢
  generalize endsL es = L at *
  have h2 : ((2 : Int) * (L.length : Int)).toNat = 2 * L.length := by omega
  refine ACall.of_body Tryz.func72 rfl (by kernel_rfl) ?_
  simp only [entry, Tryz.ntmps72, tR, tint]
  refine zU ?_
  repeat' (first|((first|(refine zT ?_;intro K' hK')|(refine zG ?_ ?_<;>(try refine zH ?_)<;>intro hguard<;>(try exact zX)<;>try intro K' hK'))<;>((try simp +contextual only [go_sem, made_ints, h2, llRows_len]);(repeat' first|(with_reducible refine hK' _ _ ?_;clear hK' K')|exact zY|with_reducible refine And.intro ?_ ?_|(with_reducible intro hpath;try exact zP)|(refine hK' _ _ ?_;clear hK' K')|fail);try refine zS ?_))|(refine zE ?_;refine hK _ _ ?_;clear hK K)|(refine zN ?_;try refine zS ?_)|refine zA ?_|(refine zB ?_;intro K hK)|(refine zC ?_ ?_<;>(try refine zH ?_)<;>intro hcond<;>try exact zX)|fail)
  rw [hz]
  refine AWp.loopx (α:=Nat) (fun v=>(⟨.c .any :: .c .any :: .c (.ptr 0 0) :: .c .any :: .c .any :: .c (.ref 1 1 0 (2 * L.length) (2 * L.length)) :: .c .any :: .c .any :: .c .any :: .c .any :: .c .any :: .c .any :: .c .any :: .c .any :: .c (.slice (llRows ar) .none) :: .c (.int .i64 (ar.length : Int)) :: .c (.int .i64 (v : Int)) :: .c .any :: .c .any :: .c .any :: .c .any :: .c .any :: .c .any :: .c .any :: .c .any :: .c .any :: .c .any :: .c .any :: .c .any :: .c .any :: .c .any :: .c .any :: .c .any :: .c .any :: .c .any :: .c .any :: .c .any :: .c .any :: .c .any :: .c .any :: .c .any :: [],[.box [.int .i64 n, .slice (eRows es) .none, .slice (llRows ar) .none], .box (iC (tabI (2 * L.length) (gB L ar v 0)))]⟩:St)) (fun v=>v ≤ ar.length) (fun v=>ar.length - v) (0) (Weak.headL 2 41 [2, 5, 14, 15, 16] (by (repeat' (first | exact valsIn_nil _ | exact blksIn_nil _ | exact cellsIn_nil _ | refine And.intro ?_ ?_ | refine valsIn_cons ?_ ?_ | refine blksIn_cons ?_ ?_ | refine cellsIn_cons ?_ ?_ | exact True.intro | exact iC_in | (show _ < _; omega) | exact cellsIn_map (fun _ => True.intro) | (intro c hc; cases hc; done) | (intro c hc; simp only [List.mem_cons, List.not_mem_nil, or_false] at hc; subst hc; exact True.intro) | (intro c hc; simp only [List.mem_cons, List.not_mem_nil, or_false] at hc; rcases hc with rfl | rfl <;> exact True.intro))))) ?_ (fun v hI=>?_)
  · exact Nat.zero_le _
  · have hv : v ≤ ar.length := hI
    clear hI
    by_cases hlt : v < ar.length
    · have hltI : (v : Int) < ar.length := by omega
      have e0 := List.getElem?_eq_getElem hlt
      have e1 := llRows_get e0
      have hl := hLl _ (List.getElem_mem hlt)
      have hs2 := fun i x => hst v i _ x e0
      have hr2 := hrow v _ e0
      generalize ar[v] = l at *
      repeat' (first|((first|(refine zT ?_;intro K' hK')|(refine zG ?_ ?_<;>(try refine zH ?_)<;>intro hguard<;>(try exact zX)<;>try intro K' hK'))<;>((try simp +contextual only [go_sem, hltI, e1, llRows_len, iRows_len, Int.toNat_natCast]);(repeat' first|(with_reducible refine hK' _ _ ?_;clear hK' K')|exact zY|with_reducible refine And.intro ?_ ?_|(with_reducible intro hpath;try exact zP)|(refine hK' _ _ ?_;clear hK' K')|fail);try refine zS ?_))|(refine zE ?_;refine hK _ _ ?_;clear hK K)|(refine zN ?_;try refine zS ?_)|refine zA ?_|(refine zB ?_;intro K hK)|(refine zC ?_ ?_<;>(try refine zH ?_)<;>intro hcond<;>try exact zX)|fail)
      refine AWp.loopx (α:=Nat) (fun i=>(⟨.c .any :: .c .any :: .c (.ptr 0 0) :: .c .any :: .c .any :: .c (.ref 1 1 0 (2 * L.length) (2 * L.length)) :: .c .any :: .c (.slice (iRows l) .none) :: .c .any :: .c .any :: .c .any :: .c .any :: .c .any :: .c .any :: .c (.slice (llRows ar) .none) :: .c (.int .i64 (ar.length : Int)) :: .c (.int .i64 (v : Int)) :: .c .any :: .c .any :: .c .any :: .c (.slice (iRows l) .none) :: .c (.int .i64 (l.length : Int)) :: .c (.int .i64 (i : Int)) :: .c .any :: .c .any :: .c .any :: .c .any :: .c .any :: .c .any :: .c .any :: .c .any :: .c .any :: .c .any :: .c .any :: .c .any :: .c .any :: .c .any :: .c .any :: .c .any :: .c .any :: .c .any :: [],[.box [.int .i64 n, .slice (eRows es) .none, .slice (llRows ar) .none], .box (iC (tabI (2 * L.length) (gB L ar v i)))]⟩:St)) (fun i=>i ≤ l.length) (fun i=>l.length - i) (0) (Weak.headL 2 41 [2, 5, 7, 14, 15, 16, 20, 21, 22] (by (repeat' (first | exact valsIn_nil _ | exact blksIn_nil _ | exact cellsIn_nil _ | refine And.intro ?_ ?_ | refine valsIn_cons ?_ ?_ | refine blksIn_cons ?_ ?_ | refine cellsIn_cons ?_ ?_ | exact True.intro | exact iC_in | (show _ < _; omega) | exact cellsIn_map (fun _ => True.intro) | (intro c hc; cases hc; done) | (intro c hc; simp only [List.mem_cons, List.not_mem_nil, or_false] at hc; subst hc; exact True.intro) | (intro c hc; simp only [List.mem_cons, List.not_mem_nil, or_false] at hc; rcases hc with rfl | rfl <;> exact True.intro))))) ?_ (fun i hI=>?_)
      · exact Nat.zero_le _
      · have hi : i ≤ l.length := hI
        clear hI
        by_cases hlt2 : i < l.length
        · have hlt2I : (i : Int) < l.length := by omega
          have f0 := List.getElem?_eq_getElem hlt2
          have f1 := iRows_get f0
          obtain ⟨⟨hx0, hx1⟩, y, hy, hset⟩ := hs2 i _ f0
          have f2 := iRows_get hy
          have hml : (i + 1) % l.length < l.length := Nat.mod_lt _ (by omega)
          have hmlI : (((i + 1) % l.length : Nat) : Int) < l.length := by omega
          have htl := tabI_len (2 * L.length) (gB L ar v i)
          generalize l[i] = x at *
          obtain ⟨x, rfl⟩ := Int.eq_ofNat_of_zero_le hx0
          rw [Int.toNat_natCast] at hset
          have htm := tmodn i l.length
          generalize hB : tabI (2 * L.length) (gB L ar v (i + 1)) = B2 at *
          generalize tabI (2 * L.length) (gB L ar v i) = B at *
          generalize (i + 1) % l.length = q at *
          repeat' (first|((first|(refine zT ?_;intro K' hK')|(refine zG ?_ ?_<;>(try refine zH ?_)<;>intro hguard<;>(try exact zX)<;>try intro K' hK'))<;>((try simp +contextual only [go_sem, hlt2I, f1, f2, iRows_len, Int.toNat_natCast, Nat.mul_one, htm, hmlI, hx1, iC_len, htl, iC_set, hset]);(repeat' first|(with_reducible refine hK' _ _ ?_;clear hK' K')|exact zY|with_reducible refine And.intro ?_ ?_|(with_reducible intro hpath;try exact zP)|(refine hK' _ _ ?_;clear hK' K')|fail);try refine zS ?_))|(refine zE ?_;refine hK _ _ ?_;clear hK K)|(refine zN ?_;try refine zS ?_)|refine zA ?_|(refine zB ?_;intro K hK)|(refine zC ?_ ?_<;>(try refine zH ?_)<;>intro hcond<;>try exact zX)|fail)
          refine ⟨i + 1,Weak.headN 2 41 [2, 5, 7, 14, 15, 16, 20, 21, 22] (by (repeat' (first | exact valsIn_nil _ | exact blksIn_nil _ | exact cellsIn_nil _ | refine And.intro ?_ ?_ | refine valsIn_cons ?_ ?_ | refine blksIn_cons ?_ ?_ | refine cellsIn_cons ?_ ?_ | exact True.intro | exact iC_in | (show _ < _; omega) | exact cellsIn_map (fun _ => True.intro) | (intro c hc; cases hc; done) | (intro c hc; simp only [List.mem_cons, List.not_mem_nil, or_false] at hc; subst hc; exact True.intro) | (intro c hc; simp only [List.mem_cons, List.not_mem_nil, or_false] at hc; rcases hc with rfl | rfl <;> exact True.intro)))) (e1:=by first|rfl|(simp [mask,keepL, hB];done)|(simp [mask,keepL, hB]<;>simp_all<;>omega)) (e2:=by first|rfl|(simp [mask,keepL, hB];done)|(simp [mask,keepL, hB]<;>simp_all<;>omega)),?_,?_⟩
          · exact hlt2
          · omega
        · have ei : i = l.length := by omega
          subst ei
          have hnl : ¬ ((l.length : Int) < l.length) := by omega
          rw [hr2]
          repeat' (first|((first|(refine zT ?_;intro K' hK')|(refine zG ?_ ?_<;>(try refine zH ?_)<;>intro hguard<;>(try exact zX)<;>try intro K' hK'))<;>((try simp +contextual only [go_sem, hnl]);(repeat' first|(with_reducible refine hK' _ _ ?_;clear hK' K')|exact zY|with_reducible refine And.intro ?_ ?_|(with_reducible intro hpath;try exact zP)|(refine hK' _ _ ?_;clear hK' K')|fail);try refine zS ?_))|(refine zE ?_;refine hK _ _ ?_;clear hK K)|(refine zN ?_;try refine zS ?_)|refine zA ?_|(refine zB ?_;intro K hK)|(refine zC ?_ ?_<;>(try refine zH ?_)<;>intro hcond<;>try exact zX)|fail)
          refine ⟨v + 1,Weak.headN 2 41 [2, 5, 14, 15, 16] (by (repeat' (first | exact valsIn_nil _ | exact blksIn_nil _ | exact cellsIn_nil _ | refine And.intro ?_ ?_ | refine valsIn_cons ?_ ?_ | refine blksIn_cons ?_ ?_ | refine cellsIn_cons ?_ ?_ | exact True.intro | exact iC_in | (show _ < _; omega) | exact cellsIn_map (fun _ => True.intro) | (intro c hc; cases hc; done) | (intro c hc; simp only [List.mem_cons, List.not_mem_nil, or_false] at hc; subst hc; exact True.intro) | (intro c hc; simp only [List.mem_cons, List.not_mem_nil, or_false] at hc; rcases hc with rfl | rfl <;> exact True.intro)))),?_,?_⟩
          · exact hlt
          · omega
    · have ev : v = ar.length := by omega
      subst ev
      have hnl : ¬ ((ar.length : Int) < ar.length) := by omega
      rw [hall]
      have htl := tabI_len (2 * L.length) (nextR L ar)
      generalize tabI (2 * L.length) (nextR L ar) = B at *
      repeat' ((fail_if_success (with_reducible refine AWp.atSeq 11 ?_));(fail_if_success (with_reducible refine AWp.atLast 11 ?_));first|((first|(refine zT ?_;intro K' hK')|(refine zG ?_ ?_<;>(try refine zH ?_)<;>intro hguard<;>(try exact zX)<;>try intro K' hK'))<;>((try simp +contextual only [go_sem, hnl]);(repeat' first|(with_reducible refine hK' _ _ ?_;clear hK' K')|exact zY|with_reducible refine And.intro ?_ ?_|(with_reducible intro hpath;try exact zP)|(refine hK' _ _ ?_;clear hK' K')|fail);try refine zS ?_))|(refine zE ?_;refine hK _ _ ?_;clear hK K)|(refine zN ?_;try refine zS ?_)|refine zA ?_|(refine zB ?_;intro K hK)|(refine zC ?_ ?_<;>(try refine zH ?_)<;>intro hcond<;>try exact zX)|fail)
      refine AWp.freezeR 5 1 1 (2 * L.length) (2 * L.length) rfl rfl (iC_trees _) (iRows B) (by rw [iRows_len, htl]) (Nat.le_refl _) (fun r hr => iRows_k' hr) (iRows_pre _) ?_
      simp only [List.set_cons_succ, List.set_cons_zero]
      repeat' (first|((first|(refine zT ?_;intro K' hK')|(refine zG ?_ ?_<;>(try refine zH ?_)<;>intro hguard<;>(try exact zX)<;>try intro K' hK'))<;>((try simp +contextual only [go_sem]);(repeat' first|(with_reducible refine hK' _ _ ?_;clear hK' K')|exact zY|with_reducible refine And.intro ?_ ?_|(with_reducible intro hpath;try exact zP)|(refine hK' _ _ ?_;clear hK' K')|fail);try refine zS ?_))|(refine zE ?_;refine hK _ _ ?_;clear hK K)|(refine zN ?_;try refine zS ?_)|refine zA ?_|(refine zB ?_;intro K hK)|(refine zC ?_ ?_<;>(try refine zH ?_)<;>intro hcond<;>try exact zX)|fail)
      simp [Rets, aret, Blk.cells, ty, Tryz.results72, ares, toT1, toT, borrow, borrow0, capCell, toTree0, tints]
end Go.Proofs.YtfkegnhpihoncaaGreat
set_option linter.all false
namespace Go.Proofs.YtfkegnhpihoncaaGreat
open Go.Sp
set_option linter.unusedSimpArgs false
set_option linter.unusedVariables false
set_option maxHeartbeats 4000000
set_option maxRecDepth 100000
def halfE (r : R) (h : Int) : Int := if ribE r ≠ 0 then ribE r else if h < 0 ∨ 2 * ((endsL r.es).length : Int) ≤ h then 2 else 0
theorem half_ok (r : R) (hr : RSm r) (h : Int) : ACall Tryz.prog 70 [tR r, tint h] (.tup [tpairs (if ribE r ≠ 0 then [] else endsL r.es), tint (halfE r h)]) := by
  have hC := rchecked_ok r hr
  unfold halfE
  by_cases he : ribE r = 0
  · have hc := (rok_of he).c
    have hlen : (endsL r.es).length ≤ 2000 := ends_len (g := r.g) hr.es hc
    rw [if_neg (by omega), he] at hC
    rw [if_neg (by omega), if_neg (by omega)]
    generalize endsL r.es = L at *
    clear he hc hr
    obtain ⟨n, es, ar⟩ := r
    refine ACall.of_body Tryz.func70 rfl (by kernel_rfl) ?_
    simp only [entry, Tryz.ntmps70, tR, tint]
    refine zU ?_
    by_cases h1 : h < 0
    · rw [if_pos (.inl h1)]
      repeat' (first|((first|(refine zT ?_;intro K' hK')|(refine zG ?_ ?_<;>(try refine zH ?_)<;>intro hguard<;>(try exact zX)<;>try intro K' hK'))<;>((try simp +contextual only [go_sem, pRows_len, h1]);(repeat' first|(with_reducible refine hK' _ _ ?_;clear hK' K')|(with_reducible refine zK hC ?_;try simp +contextual only [go_sem, pRows_len, h1])|exact zY|with_reducible refine And.intro ?_ ?_|(with_reducible intro hpath;try exact zP)|(refine hK' _ _ ?_;clear hK' K')|fail);try refine zS ?_))|(refine zE ?_;refine hK _ _ ?_;clear hK K)|(refine zN ?_;try refine zS ?_)|refine zA ?_|(refine zB ?_;intro K hK)|(refine zC ?_ ?_<;>(try refine zH ?_)<;>intro hcond<;>try exact zX)|fail)
      simp [Rets, aret, Blk.cells, ty, Tryz.results70, ares, toT1, toT, borrow, borrow0, capCell, toTree0, tint, tpairs]
    · by_cases h2 : 2 * (L.length : Int) ≤ h
      · rw [if_pos (.inr h2)]
        repeat' (first|((first|(refine zT ?_;intro K' hK')|(refine zG ?_ ?_<;>(try refine zH ?_)<;>intro hguard<;>(try exact zX)<;>try intro K' hK'))<;>((try simp +contextual only [go_sem, pRows_len, h1, h2]);(repeat' first|(with_reducible refine hK' _ _ ?_;clear hK' K')|(with_reducible refine zK hC ?_;try simp +contextual only [go_sem, pRows_len, h1, h2])|exact zY|with_reducible refine And.intro ?_ ?_|(with_reducible intro hpath;try exact zP)|(refine hK' _ _ ?_;clear hK' K')|fail);try refine zS ?_))|(refine zE ?_;refine hK _ _ ?_;clear hK K)|(refine zN ?_;try refine zS ?_)|refine zA ?_|(refine zB ?_;intro K hK)|(refine zC ?_ ?_<;>(try refine zH ?_)<;>intro hcond<;>try exact zX)|fail)
        simp [Rets, aret, Blk.cells, ty, Tryz.results70, ares, toT1, toT, borrow, borrow0, capCell, toTree0, tint, tpairs]
      · rw [if_neg (by omega)]
        repeat' (first|((first|(refine zT ?_;intro K' hK')|(refine zG ?_ ?_<;>(try refine zH ?_)<;>intro hguard<;>(try exact zX)<;>try intro K' hK'))<;>((try simp +contextual only [go_sem, pRows_len, h1, h2]);(repeat' first|(with_reducible refine hK' _ _ ?_;clear hK' K')|(with_reducible refine zK hC ?_;try simp +contextual only [go_sem, pRows_len, h1, h2])|exact zY|with_reducible refine And.intro ?_ ?_|(with_reducible intro hpath;try exact zP)|(refine hK' _ _ ?_;clear hK' K')|fail);try refine zS ?_))|(refine zE ?_;refine hK _ _ ?_;clear hK K)|(refine zN ?_;try refine zS ?_)|refine zA ?_|(refine zB ?_;intro K hK)|(refine zC ?_ ?_<;>(try refine zH ?_)<;>intro hcond<;>try exact zX)|fail)
        simp [Rets, aret, Blk.cells, ty, Tryz.results70, ares, toT1, toT, borrow, borrow0, capCell, toTree0, tint, tpairs]
  · rw [if_pos he] at hC ⊢
    rw [if_pos he]
    generalize ribE r = E at *
    obtain ⟨n, es, ar⟩ := r
    refine ACall.of_body Tryz.func70 rfl (by kernel_rfl) ?_
    simp only [entry, Tryz.ntmps70, tR, tint]
    refine zU ?_
    repeat' (first|((first|(refine zT ?_;intro K' hK')|(refine zG ?_ ?_<;>(try refine zH ?_)<;>intro hguard<;>(try exact zX)<;>try intro K' hK'))<;>((try simp +contextual only [go_sem, he]);(repeat' first|(with_reducible refine hK' _ _ ?_;clear hK' K')|(with_reducible refine zK hC ?_;try simp +contextual only [go_sem, he])|exact zY|with_reducible refine And.intro ?_ ?_|(with_reducible intro hpath;try exact zP)|(refine hK' _ _ ?_;clear hK' K')|fail);try refine zS ?_))|(refine zE ?_;refine hK _ _ ?_;clear hK K)|(refine zN ?_;try refine zS ?_)|refine zA ?_|(refine zB ?_;intro K hK)|(refine zC ?_ ?_<;>(try refine zH ?_)<;>intro hcond<;>try exact zX)|fail)
    simp [Rets, aret, Blk.cells, ty, Tryz.results70, ares, toT1, toT, borrow, borrow0, capCell, toTree0, tint, tpairs]
theorem rAt_ok (r : R) (hr : RSm r) (h : Int) : ACall Tryz.prog 33 [tR r, tint h] (.tup [tint (if halfE r h ≠ 0 then 0 else atL (endsL r.es) h.toNat), tint (halfE r h)]) := by
  have hH := half_ok r hr h
  by_cases he : halfE r h = 0
  · have hz : ribE r = 0 ∧ 0 ≤ h ∧ h < 2 * ((endsL r.es).length : Int) := by
      unfold halfE at he
      by_cases h0 : ribE r = 0
      · rw [if_neg (by omega)] at he
        by_cases h1 : h < 0 ∨ 2 * ((endsL r.es).length : Int) ≤ h
        · rw [if_pos h1] at he; omega
        · exact ⟨h0, by omega⟩
      · rw [if_pos h0] at he; exact absurd he h0
    have hlen : (endsL r.es).length ≤ 2000 := ends_len (g := r.g) hr.es (rok_of hz.1).c
    rw [if_neg (by omega), he] at hH
    rw [he, if_neg (by omega)]
    obtain ⟨k, rfl⟩ := Int.eq_ofNat_of_zero_le hz.2.1
    have hA := atH_ok (endsL r.es) k (by omega) (by omega)
    rw [Int.toNat_natCast]
    generalize atL (endsL r.es) k = v at *
    generalize endsL r.es = L at *
    clear he hz hr
    obtain ⟨n, es, ar⟩ := r
    refine ACall.of_body Tryz.func33 rfl (by kernel_rfl) ?_
    simp only [entry, Tryz.ntmps33, tR, tint]
    refine zU ?_
    repeat' (first|((first|(refine zT ?_;intro K' hK')|(refine zG ?_ ?_<;>(try refine zH ?_)<;>intro hguard<;>(try exact zX)<;>try intro K' hK'))<;>((try simp +contextual only [go_sem]);(repeat' first|(with_reducible refine hK' _ _ ?_;clear hK' K')|((with_reducible first|refine zK hH ?_|refine zK hA ?_);try simp +contextual only [go_sem])|exact zY|with_reducible refine And.intro ?_ ?_|(with_reducible intro hpath;try exact zP)|(refine hK' _ _ ?_;clear hK' K')|fail);try refine zS ?_))|(refine zE ?_;refine hK _ _ ?_;clear hK K)|(refine zN ?_;try refine zS ?_)|refine zA ?_|(refine zB ?_;intro K hK)|(refine zC ?_ ?_<;>(try refine zH ?_)<;>intro hcond<;>try exact zX)|fail)
    simp [Rets, aret, Blk.cells, ty, Tryz.results33, ares, toT1, toT, borrow, borrow0, capCell, toTree0, tint]
  · rw [if_pos he]
    generalize halfE r h = E at *
    generalize (if ribE r ≠ 0 then [] else endsL r.es) = L at *
    obtain ⟨n, es, ar⟩ := r
    refine ACall.of_body Tryz.func33 rfl (by kernel_rfl) ?_
    simp only [entry, Tryz.ntmps33, tR, tint]
    refine zU ?_
    repeat' (first|((first|(refine zT ?_;intro K' hK')|(refine zG ?_ ?_<;>(try refine zH ?_)<;>intro hguard<;>(try exact zX)<;>try intro K' hK'))<;>((try simp +contextual only [go_sem, he]);(repeat' first|(with_reducible refine hK' _ _ ?_;clear hK' K')|(with_reducible refine zK hH ?_;try simp +contextual only [go_sem, he])|exact zY|with_reducible refine And.intro ?_ ?_|(with_reducible intro hpath;try exact zP)|(refine hK' _ _ ?_;clear hK' K')|fail);try refine zS ?_))|(refine zE ?_;refine hK _ _ ?_;clear hK K)|(refine zN ?_;try refine zS ?_)|refine zA ?_|(refine zB ?_;intro K hK)|(refine zC ?_ ?_<;>(try refine zH ?_)<;>intro hcond<;>try exact zX)|fail)
    simp [Rets, aret, Blk.cells, ty, Tryz.results33, ares, toT1, toT, borrow, borrow0, capCell, toTree0, tint]
theorem CloneE_ok (l : List E) (hne : l ≠ []) (hl : l.length < 2 ^ 30) : ACall Tryz.prog 107 [.t (.slice (eRows l))] (.t (.slice (eRows l))) := by
  have hrn : eRows l ≠ [] := by simpa [eRows] using hne
  have hrl : (eRows l).length = l.length := eRows_len l
  have hrk : ∀ r, r ∈ eRows l → r.length = 3 := fun r hr => eRows_k' hr
  refine ACall.of_body Tryz.func107 rfl (by kernel_rfl) ?_
  simp only [entry, Tryz.ntmps107]
  refine zU ?_
  generalize eRows l = rows at *
  repeat' (first|((first|(refine zT ?_;intro K' hK')|(refine zG ?_ ?_<;>(try refine zH ?_)<;>intro hguard<;>(try exact zX)<;>try intro K' hK'))<;>((try simp +contextual only [go_sem, hrl, chunks, List.range, List.range.loop]);(repeat' first|(with_reducible refine hK' _ _ ?_;clear hK' K')|(exact hrn)|(with_reducible exact hrk _ (by assumption))|(exact .inr True.intro)|exact zY|with_reducible refine And.intro ?_ ?_|(with_reducible intro hpath;try exact zP)|(refine hK' _ _ ?_;clear hK' K')|fail);try refine zS ?_))|(refine zE ?_;refine hK _ _ ?_;clear hK K)|(refine zN ?_;try refine zS ?_)|refine zA ?_|(refine zB ?_;intro K hK)|(refine zC ?_ ?_<;>(try refine zH ?_)<;>intro hcond<;>try exact zX)|fail)
  simp [Rets, aret, Blk.cells, ty, Tryz.results107, ares, toT1, toT, borrow, borrow0, capCell, toTree0]
theorem CloneE_none : ACall Tryz.prog 107 [.t (.slice [])] (.t (.slice [])) := by
  refine ACall.of_body Tryz.func107 rfl (by kernel_rfl) ?_
  simp only [entry, Tryz.ntmps107]
  refine zU ?_
  repeat' (first|((with_reducible refine AWp.seq (AWp.of_reg (id:=1) (AReg.pre 1 (fun K hK=>?_))));simp only [List.take_succ_cons,List.take_zero])|((with_reducible refine AWp.of_reg (id:=1) (AReg.pre 1 (fun K hK=>?_)));simp only [List.take_succ_cons,List.take_zero])|((first|(refine zT ?_;intro K' hK')|(refine zG ?_ ?_<;>(try refine zH ?_)<;>intro hguard<;>(try exact zX)<;>try intro K' hK'))<;>((try simp +contextual only [go_sem]);(repeat' first|(with_reducible refine hK' _ _ ?_;clear hK' K')|exact zY|with_reducible refine And.intro ?_ ?_|(with_reducible intro hpath;try exact zP)|(refine hK' _ _ ?_;clear hK' K')|fail);try refine zS ?_))|(refine zE ?_;refine hK _ _ ?_;clear hK K)|(refine zN ?_;try refine zS ?_)|refine zA ?_|(refine zB ?_;intro K hK)|(refine zC ?_ ?_<;>(try refine zH ?_)<;>intro hcond<;>try exact zX)|fail)
  simp only [List.drop_succ_cons, List.drop_zero]
  refine AReg.nilq (e := 76) false rfl rfl rfl (by simp only [ty]) rfl rfl (fun b => AReg.rest (fun K hK => ?_))
  cases b
  ·
    repeat' (first|((first|(refine zT ?_;intro K' hK')|(refine zG ?_ ?_<;>(try refine zH ?_)<;>intro hguard<;>(try exact zX)<;>try intro K' hK'))<;>((try simp +contextual only [go_sem, List.length_nil, chunks, List.range, List.range.loop, List.map_nil]);(repeat' first|(with_reducible refine hK' _ _ ?_;clear hK' K')|(exact .inr True.intro)|(exact absurd True.intro (by assumption))|exact zY|with_reducible refine And.intro ?_ ?_|(with_reducible intro hpath;try exact zP)|(refine hK' _ _ ?_;clear hK' K')|fail);try refine zS ?_))|(refine zE ?_;refine hK _ _ ?_;clear hK K)|(refine zN ?_;try refine zS ?_)|refine zA ?_|(refine zB ?_;intro K hK)|(refine zC ?_ ?_<;>(try refine zH ?_)<;>intro hcond<;>try exact zX)|fail)
    simp [Rets, aret, Blk.cells, ty, Tryz.results107, ares, toT1, toT, borrow, borrow0, capCell, toTree0]
  ·
    repeat' (first|((first|(refine zT ?_;intro K' hK')|(refine zG ?_ ?_<;>(try refine zH ?_)<;>intro hguard<;>(try exact zX)<;>try intro K' hK'))<;>((try simp +contextual only [go_sem]);(repeat' first|(with_reducible refine hK' _ _ ?_;clear hK' K')|exact zY|with_reducible refine And.intro ?_ ?_|(with_reducible intro hpath;try exact zP)|(refine hK' _ _ ?_;clear hK' K')|fail);try refine zS ?_))|(refine zE ?_;refine hK _ _ ?_;clear hK K)|(refine zN ?_;try refine zS ?_)|refine zA ?_|(refine zB ?_;intro K hK)|(refine zC ?_ ?_<;>(try refine zH ?_)<;>intro hcond<;>try exact zX)|fail)
    simp [Rets, aret, Blk.cells, ty, Tryz.results107, ares, toT1, toT, borrow, borrow0, capCell, toTree0]
theorem copied_ok (g : G) (hl : g.es.length ≤ 40) : ACall Tryz.prog 63 [tG g] (tG g) := by
  obtain ⟨n, es⟩ := g
  simp only at hl
  by_cases he : es = []
  · subst he
    have hN := CloneE_none
    refine ACall.of_body Tryz.func63 rfl (by kernel_rfl) ?_
    simp only [entry, Tryz.ntmps63, tG, eRows]
    refine zU ?_
    repeat' (first|((first|(refine zT ?_;intro K' hK')|(refine zG ?_ ?_<;>(try refine zH ?_)<;>intro hguard<;>(try exact zX)<;>try intro K' hK'))<;>((try simp +contextual only [go_sem]);(repeat' first|(with_reducible refine hK' _ _ ?_;clear hK' K')|(with_reducible refine zK hN ?_;try simp +contextual only [go_sem])|exact zY|with_reducible refine And.intro ?_ ?_|(with_reducible intro hpath;try exact zP)|(refine hK' _ _ ?_;clear hK' K')|fail);try refine zS ?_))|(refine zE ?_;refine hK _ _ ?_;clear hK K)|(refine zN ?_;try refine zS ?_)|refine zA ?_|(refine zB ?_;intro K hK)|(refine zC ?_ ?_<;>(try refine zH ?_)<;>intro hcond<;>try exact zX)|fail)
    simp [Rets, aret, Blk.cells, ty, Tryz.results63, ares, toT1, toT, borrow, borrow0, capCell, toTree0, tG, eRows]
  · have hC := CloneE_ok es he (by omega)
    refine ACall.of_body Tryz.func63 rfl (by kernel_rfl) ?_
    simp only [entry, Tryz.ntmps63, tG]
    refine zU ?_
    repeat' (first|((first|(refine zT ?_;intro K' hK')|(refine zG ?_ ?_<;>(try refine zH ?_)<;>intro hguard<;>(try exact zX)<;>try intro K' hK'))<;>((try simp +contextual only [go_sem]);(repeat' first|(with_reducible refine hK' _ _ ?_;clear hK' K')|(with_reducible refine zK hC ?_;try simp +contextual only [go_sem])|exact zY|with_reducible refine And.intro ?_ ?_|(with_reducible intro hpath;try exact zP)|(refine hK' _ _ ?_;clear hK' K')|fail);try refine zS ?_))|(refine zE ?_;refine hK _ _ ?_;clear hK K)|(refine zN ?_;try refine zS ?_)|refine zA ?_|(refine zB ?_;intro K hK)|(refine zC ?_ ?_<;>(try refine zH ?_)<;>intro hcond<;>try exact zX)|fail)
    simp [Rets, aret, Blk.cells, ty, Tryz.results63, ares, toT1, toT, borrow, borrow0, capCell, toTree0, tG]
theorem rDefault_ok (g : G) (hl : g.es.length ≤ 40) : ACall Tryz.prog 28 [tG g] (.tup [tR (if joinedE g ≠ 0 then ⟨0, [], []⟩ else ⟨g.n, g.es, halvesL (endsL g.es) g.n.toNat (2 * (endsL g.es).length)⟩), tint (joinedE g)]) := by
  have hJ := rjoined_ok g hl
  have hC := copied_ok g hl
  by_cases hj : joinedE g = 0
  case neg =>
    rw [if_pos hj]
    have hL : ∃ L, (if checkG g ≠ 0 then [] else endsL g.es) = L := ⟨_, rfl⟩
    obtain ⟨L, hL⟩ := hL
    rw [hL] at hJ
    generalize joinedE g = E at *
    obtain ⟨n, es⟩ := g
    refine ACall.of_body Tryz.func28 rfl (by kernel_rfl) ?_
    simp only [entry, Tryz.ntmps28, tG]
    refine zU ?_
    repeat' (first|((first|(refine zT ?_;intro K' hK')|(refine zG ?_ ?_<;>(try refine zH ?_)<;>intro hguard<;>(try exact zX)<;>try intro K' hK'))<;>((try simp +contextual only [go_sem, hj]);(repeat' first|(with_reducible refine hK' _ _ ?_;clear hK' K')|(with_reducible refine zK hJ ?_;try simp +contextual only [go_sem, hj])|exact zY|with_reducible refine And.intro ?_ ?_|(with_reducible intro hpath;try exact zP)|(refine hK' _ _ ?_;clear hK' K')|fail);try refine zS ?_))|(refine zE ?_;refine hK _ _ ?_;clear hK K)|(refine zN ?_;try refine zS ?_)|refine zA ?_|(refine zB ?_;intro K hK)|(refine zC ?_ ?_<;>(try refine zH ?_)<;>intro hcond<;>try exact zX)|fail)
    simp [Rets, aret, Blk.cells, ty, Tryz.results28, ares, toT1, toT, borrow, borrow0, capCell, toTree0, tint, tR, eRows, llRows]
  have hc : checkG g = 0 := by
    unfold joinedE at hj
    by_cases h : checkG g = 0
    · exact h
    · rw [if_pos h] at hj; exact absurd hj h
  have h12 := (checkG_zero.1 hc).1
  have hlen := ends_len hl hc
  rw [if_neg (by omega), hj] at hJ
  rw [if_neg (by omega), hj]
  have hat : ∀ h, h < 2 * (endsL g.es).length → 0 ≤ atL (endsL g.es) h ∧ atL (endsL g.es) h < (g.n.toNat : Nat) := fun h hh => by
    have := atL_range (r := ⟨g.n, g.es, []⟩) hc hh
    have h1 : (⟨g.n, g.es, []⟩ : R).n = g.n := rfl
    have h2 : (⟨g.n, g.es, []⟩ : R).es = g.es := rfl
    rw [h1, h2] at this
    omega
  have hH := halves_ok (endsL g.es) g.n.toNat (by omega) (by omega) hat
  rw [show ((g.n.toNat : Nat) : Int) = g.n by omega] at hH
  clear hat hc hj
  obtain ⟨n, es⟩ := g
  simp only at hH hJ ⊢
  generalize halvesL (endsL es) n.toNat (2 * (endsL es).length) = hs at *
  generalize endsL es = L at *
  refine ACall.of_body Tryz.func28 rfl (by kernel_rfl) ?_
  simp only [entry, Tryz.ntmps28, tG]
  refine zU ?_
  repeat' (first|((first|(refine zT ?_;intro K' hK')|(refine zG ?_ ?_<;>(try refine zH ?_)<;>intro hguard<;>(try exact zX)<;>try intro K' hK'))<;>((try simp +contextual only [go_sem]);(repeat' first|(with_reducible refine hK' _ _ ?_;clear hK' K')|((with_reducible first|refine zK hJ ?_|refine zK hC ?_|refine zK hH ?_);try simp +contextual only [go_sem])|exact zY|with_reducible refine And.intro ?_ ?_|(with_reducible intro hpath;try exact zP)|(refine hK' _ _ ?_;clear hK' K')|fail);try refine zS ?_))|(refine zE ?_;refine hK _ _ ?_;clear hK K)|(refine zN ?_;try refine zS ?_)|refine zA ?_|(refine zB ?_;intro K hK)|(refine zC ?_ ?_<;>(try refine zH ?_)<;>intro hcond<;>try exact zX)|fail)
  simp [Rets, aret, Blk.cells, ty, Tryz.results28, ares, toT1, toT, borrow, borrow0, capCell, toTree0, tint, tR]
end Go.Proofs.YtfkegnhpihoncaaGreat
set_option linter.all false
namespace Go.Proofs.YtfkegnhpihoncaaGreat
open Go.Sp
set_option linter.unusedSimpArgs false
set_option linter.unusedVariables false
set_option maxHeartbeats 4000000
set_option maxRecDepth 100000
theorem xor_one (h : Nat) : h ^^^ 1 = oppH h := by
  have h1 : (h ^^^ 1) / 2 = h / 2 := by
    have := Nat.xor_div_two (a := h) (b := 1)
    simpa using this
  have h2 : (h ^^^ 1) % 2 = 1 - h % 2 := by
    rcases Nat.mod_two_eq_zero_or_one h with e | e
    · have : (h ^^^ 1) % 2 = 1 := by rw [Nat.xor_mod_two_eq_one]; simp [e]
      omega
    · have : ¬ (h ^^^ 1) % 2 = 1 := by rw [Nat.xor_mod_two_eq_one]; simp [e]
      omega
  unfold oppH; omega
theorem xor_bits (h : Nat) (hh : h < 2 ^ 40) : IntKind.i64.wrap (((BitVec.ofInt IntKind.i64.bits (h : Int) ^^^ BitVec.ofInt IntKind.i64.bits 1).toNat : Nat) : Int) = ((oppH h : Nat) : Int) := by
  have e1 : (BitVec.ofInt IntKind.i64.bits (h : Int)).toNat = h := by
    rw [BitVec.toNat_ofInt]
    show ((h : Int) % ((2 ^ 64 : Nat) : Int)).toNat = h
    omega
  have e2 : (BitVec.ofInt IntKind.i64.bits 1).toNat = 1 := by decide
  rw [BitVec.toNat_xor, e1, e2, xor_one]
  exact wrap_in ⟨by omega, by unfold oppH; omega⟩
theorem opposite_ok (h : Nat) (hh : h < 2 ^ 40) : ACall Tryz.prog 59 [tint h] (tint (oppH h : Nat)) := by
  have hx : ibit .xor .i64 (h : Int) 1 = ((oppH h : Nat) : Int) := xor_bits h hh
  refine ACall.of_body Tryz.func59 rfl (by kernel_rfl) ?_
  simp only [entry, Tryz.ntmps59, tint]
  refine zU ?_
  repeat' (first|((first|(refine zT ?_;intro K' hK')|(refine zG ?_ ?_<;>(try refine zH ?_)<;>intro hguard<;>(try exact zX)<;>try intro K' hK'))<;>((try simp +contextual only [go_sem, hx]);(repeat' first|(with_reducible refine hK' _ _ ?_;clear hK' K')|exact zY|with_reducible refine And.intro ?_ ?_|(with_reducible intro hpath;try exact zP)|(refine hK' _ _ ?_;clear hK' K')|fail);try refine zS ?_))|(refine zE ?_;refine hK _ _ ?_;clear hK K)|(refine zN ?_;try refine zS ?_)|refine zA ?_|(refine zB ?_;intro K hK)|(refine zC ?_ ?_<;>(try refine zH ?_)<;>intro hcond<;>try exact zX)|fail)
  simp [Rets, aret, Blk.cells, ty, Tryz.results59, ares, toT1, toT, borrow, borrow0, capCell, toTree0, tint]
theorem half_zero {r : R} {h : Int} (he : halfE r h = 0) : ribE r = 0 ∧ 0 ≤ h ∧ h < 2 * ((endsL r.es).length : Int) := by
  unfold halfE at he
  by_cases h0 : ribE r = 0
  · rw [if_neg (by omega)] at he
    by_cases h1 : h < 0 ∨ 2 * ((endsL r.es).length : Int) ≤ h
    · rw [if_pos h1] at he; omega
    · exact ⟨h0, by omega⟩
  · rw [if_pos h0] at he; exact absurd he h0
theorem rNext_ok (r : R) (hr : RSm r) (h : Int) : ACall Tryz.prog 34 [tR r, tint h] (.tup [tint (if halfE r h ≠ 0 then 0 else nextR (endsL r.es) r.ar h.toNat), tint (halfE r h)]) := by
  have hH := half_ok r hr h
  by_cases he : halfE r h = 0
  · obtain ⟨hz, hz1, hz2⟩ := half_zero he
    have hB := behind_ok r hr (rok_of hz)
    rw [if_neg (by omega), he] at hH
    rw [he, if_neg (by omega)]
    obtain ⟨k, rfl⟩ := Int.eq_ofNat_of_zero_le hz1
    have hg := iRows_get (tabI_get (nextR (endsL r.es) r.ar) (show k < 2 * (endsL r.es).length by omega))
    have htl := tabI_len (2 * (endsL r.es).length) (nextR (endsL r.es) r.ar)
    have hkI : (k : Int) < ((2 * (endsL r.es).length : Nat) : Int) := by omega
    rw [Int.toNat_natCast]
    generalize tabI (2 * (endsL r.es).length) (nextR (endsL r.es) r.ar) = B at *
    generalize nextR (endsL r.es) r.ar k = v at *
    generalize endsL r.es = L at *
    clear he hz hr
    obtain ⟨n, es, ar⟩ := r
    refine ACall.of_body Tryz.func34 rfl (by kernel_rfl) ?_
    simp only [entry, Tryz.ntmps34, tR, tint]
    refine zU ?_
    repeat' (first|((first|(refine zT ?_;intro K' hK')|(refine zG ?_ ?_<;>(try refine zH ?_)<;>intro hguard<;>(try exact zX)<;>try intro K' hK'))<;>((try simp +contextual only [go_sem, pRows_len, iRows_len, htl, hkI, hg, Int.toNat_natCast]);(repeat' first|(with_reducible refine hK' _ _ ?_;clear hK' K')|((with_reducible first|refine zK hH ?_|refine zK hB ?_);try simp +contextual only [go_sem, pRows_len, iRows_len, htl, hkI, hg, Int.toNat_natCast])|exact zY|with_reducible refine And.intro ?_ ?_|(with_reducible intro hpath;try exact zP)|(refine hK' _ _ ?_;clear hK' K')|fail);try refine zS ?_))|(refine zE ?_;refine hK _ _ ?_;clear hK K)|(refine zN ?_;try refine zS ?_)|refine zA ?_|(refine zB ?_;intro K hK)|(refine zC ?_ ?_<;>(try refine zH ?_)<;>intro hcond<;>try exact zX)|fail)
    simp [Rets, aret, Blk.cells, ty, Tryz.results34, ares, toT1, toT, borrow, borrow0, capCell, toTree0, tint]
  · rw [if_pos he]
    generalize halfE r h = E at *
    generalize (if ribE r ≠ 0 then [] else endsL r.es) = L at *
    obtain ⟨n, es, ar⟩ := r
    refine ACall.of_body Tryz.func34 rfl (by kernel_rfl) ?_
    simp only [entry, Tryz.ntmps34, tR, tint]
    refine zU ?_
    repeat' (first|((first|(refine zT ?_;intro K' hK')|(refine zG ?_ ?_<;>(try refine zH ?_)<;>intro hguard<;>(try exact zX)<;>try intro K' hK'))<;>((try simp +contextual only [go_sem, he]);(repeat' first|(with_reducible refine hK' _ _ ?_;clear hK' K')|(with_reducible refine zK hH ?_;try simp +contextual only [go_sem, he])|exact zY|with_reducible refine And.intro ?_ ?_|(with_reducible intro hpath;try exact zP)|(refine hK' _ _ ?_;clear hK' K')|fail);try refine zS ?_))|(refine zE ?_;refine hK _ _ ?_;clear hK K)|(refine zN ?_;try refine zS ?_)|refine zA ?_|(refine zB ?_;intro K hK)|(refine zC ?_ ?_<;>(try refine zH ?_)<;>intro hcond<;>try exact zX)|fail)
    simp [Rets, aret, Blk.cells, ty, Tryz.results34, ares, toT1, toT, borrow, borrow0, capCell, toTree0, tint]
@[simp] theorem it_zero (f : Nat → Nat) (s : Nat) : it f 0 s = s := rfl
def itemsN (l : List Nat) : List (List TVal) := l.map fun x : Nat => [tint (x : Int)]
theorem itemsN_len (l : List Nat) : (itemsN l).length = l.length := by simp [itemsN]
theorem itemsN_get {l : List Nat} {i x : Nat} (h : l[i]? = some x) : (itemsN l)[i]? = some [tint (x : Int)] := by simp [itemsN, h]
theorem itemsN_inv {l : List Nat} {i : Nat} {ts : List TVal} (h : (itemsN l)[i]? = some ts) : ∃ x, l[i]? = some x ∧ ts = [tint (x : Int)] := by
  simp only [itemsN, List.getElem?_map] at h
  cases hl : l[i]? with
  | none => simp [hl] at h
  | some p => simp [hl] at h; exact ⟨p, rfl, h.symm⟩
theorem orbit1_ok {N : Nat} {f : Nat → Nat} (hp : PermN N f) (hN : N < 2 ^ 30) (nexts : List Int) (hnl : nexts.length = N) (hev : ∀ x, x < N → oppH x < N) (hnx : ∀ x, x < N → nexts[oppH x]? = some ((f x : Nat) : Int)) (s : Nat) (hs : s < N) :
    AIter Tryz.prog 133 [.rptr [.int .i64 (s : Int)], .rptr [.slice (iRows nexts)]] (itemsN (faceF f N s)) := by
  obtain ⟨p, h1, h2, h3, h4, h5⟩ := face_spec hp hs
  rw [h5]
  have hget : ∀ k, k < p → (itemsN ((List.range p).map fun i => it f i s))[k]? = some [tint ((it f k s : Nat) : Int)] := fun k hk => itemsN_get (by simp [hk])
  have hlenI : (itemsN ((List.range p).map fun i => it f i s)).length = p := by rw [itemsN_len]; simp
  generalize itemsN ((List.range p).map fun i => it f i s) = xs at *
  refine AIter.of_body Tryz.func133 rfl (by kernel_rfl) rfl (fun l J Jx hJ hJx hY => ?_)
  simp only [entry, Tryz.ntmps133, ofT, ofT1, ofTree, List.map_cons, List.map_nil, List.length_cons, List.length_nil, Nat.reduceAdd, Nat.reduceSub, List.replicate_succ, List.replicate_zero, List.cons_append, List.nil_append]
  repeat' (first|((first|(refine zT ?_;intro K' hK')|(refine zG ?_ ?_<;>(try refine zH ?_)<;>intro hguard<;>(try exact zX)<;>try intro K' hK'))<;>((try simp +contextual only [go_sem]);(repeat' first|(with_reducible refine hK' _ _ ?_;clear hK' K')|exact zY|with_reducible refine And.intro ?_ ?_|(with_reducible intro hpath;try exact zP)|(refine hK' _ _ ?_;clear hK' K')|fail);try refine zS ?_))|(refine zE ?_;refine hK _ _ ?_;clear hK K)|(refine zN ?_;try refine zS ?_)|refine zA ?_|(refine zB ?_;intro K hK)|(refine zC ?_ ?_<;>(try refine zH ?_)<;>intro hcond<;>try exact zX)|fail)
  refine AWp.loopx (α:=Nat) (fun k=>(⟨.c (.yld l) :: .c (.rptr [.int .i64 (s : Int)]) :: .c (.rptr [.slice (iRows nexts)]) :: .c .any :: .c (.int .i64 ((it f k s : Nat) : Int)) :: .c (.bool (decide (k = 0) || decide (k < p))) :: .c .any :: .c .any :: .c .any :: .c .any :: .c .any :: .c .any :: .c .any :: .c .any :: .c .any :: .c .any :: .c .any :: .c .any :: .c .any :: .c .any :: [],[.ghost (J k)]⟩:St)) (fun k=>k ≤ p) (fun k=>p - k) (0) (Weak.headL 1 20 [0, 1, 2, 4, 5] zW) ?_ (fun k hI=>?_)
  · exact Nat.zero_le _
  · have hk : k ≤ p := hI
    clear hI
    by_cases hlt : k < p
    · have hgk := hget k hlt
      have hxl := hp.it_lt hs k
      have hO := opposite_ok (it f k s) (by omega)
      have hol := hev _ hxl
      have hnk := iRows_get (hnx _ hxl)
      have hit : f (it f k s) = it f (k + 1) s := rfl
      rw [hit] at hnk
      have hmore : (((it f (k + 1) s : Nat) : Int) = (s : Int)) ↔ ¬ (k + 1 < p) := by
        constructor
        · intro e hc
          exact h4 (k + 1) (by omega) hc (by omega)
        · intro hc
          have : k + 1 = p := by omega
          rw [this, h3]
      have hdec : (decide (k = 0) || decide (k < p)) = true := by simp [hlt]
      rw [hdec]
      have holI : ((oppH (it f k s) : Nat) : Int) < (nexts.length : Int) := by omega
      repeat' (first|((with_reducible refine AWp.seq (AWp.of_reg (id:=4) (AReg.pre 2 (fun K hK=>?_))));simp only [List.take_succ_cons,List.take_zero])|((with_reducible refine AWp.of_reg (id:=4) (AReg.pre 2 (fun K hK=>?_)));simp only [List.take_succ_cons,List.take_zero])|((first|(refine zT ?_;intro K' hK')|(refine zG ?_ ?_<;>(try refine zH ?_)<;>intro hguard<;>(try exact zX)<;>try intro K' hK'))<;>((try simp +contextual only [go_sem]);(repeat' first|(with_reducible refine hK' _ _ ?_;clear hK' K')|exact zY|with_reducible refine And.intro ?_ ?_|(with_reducible intro hpath;try exact zP)|(refine hK' _ _ ?_;clear hK' K')|fail);try refine zS ?_))|(refine zE ?_;refine hK _ _ ?_;clear hK K)|(refine zN ?_;try refine zS ?_)|refine zA ?_|(refine zB ?_;intro K hK)|(refine zC ?_ ?_<;>(try refine zH ?_)<;>intro hcond<;>try exact zX)|fail)
      simp only [List.drop_succ_cons, List.drop_zero]
      refine AReg.yield rfl rfl rfl (by rfl) (by with_unfolding_all rfl) (by simp [okBlk]) (hY _ _ hgk) (hJ _) hJx ?_ ?_ <;> (try refine zS ?_) <;> refine AReg.rest (fun K hK => ?_)
      ·
        repeat' (first|((first|(refine zT ?_;intro K' hK')|(refine zG ?_ ?_<;>(try refine zH ?_)<;>intro hguard<;>(try exact zX)<;>try intro K' hK'))<;>((try simp +contextual only [go_sem, iRows_len, holI, hnk, Int.toNat_natCast]);(repeat' first|(with_reducible refine hK' _ _ ?_;clear hK' K')|(with_reducible refine zK hO ?_;try simp +contextual only [go_sem, iRows_len, holI, hnk, Int.toNat_natCast])|exact zY|with_reducible refine And.intro ?_ ?_|(with_reducible intro hpath;try exact zP)|(refine hK' _ _ ?_;clear hK' K')|fail);try refine zS ?_))|(refine zE ?_;refine hK _ _ ?_;clear hK K)|(refine zN ?_;try refine zS ?_)|refine zA ?_|(refine zB ?_;intro K hK)|(refine zC ?_ ?_<;>(try refine zH ?_)<;>intro hcond<;>try exact zX)|fail)
        have hb : (!decide (((it f (k + 1) s : Nat) : Int) = (s : Int))) = (decide (k + 1 = 0) || decide (k + 1 < p)) := by
          by_cases hc : k + 1 < p
          · rw [decide_eq_true hc, decide_eq_false (fun e => (hmore.1 e) hc)]; simp
          · rw [decide_eq_false hc, decide_eq_true (hmore.2 hc)]; simp
        rw [hb]
        refine ⟨k + 1,Weak.headN 1 20 [0, 1, 2, 4, 5] zW,?_,?_⟩
        · exact hlt
        · omega
      ·
        repeat' (first|((first|(refine zT ?_;intro K' hK')|(refine zG ?_ ?_<;>(try refine zH ?_)<;>intro hguard<;>(try exact zX)<;>try intro K' hK'))<;>((try simp +contextual only [go_sem]);(repeat' first|(with_reducible refine hK' _ _ ?_;clear hK' K')|exact zY|with_reducible refine And.intro ?_ ?_|(with_reducible intro hpath;try exact zP)|(refine hK' _ _ ?_;clear hK' K')|fail);try refine zS ?_))|(refine zE ?_;refine hK _ _ ?_;clear hK K)|(refine zN ?_;try refine zS ?_)|refine zA ?_|(refine zB ?_;intro K hK)|(refine zC ?_ ?_<;>(try refine zH ?_)<;>intro hcond<;>try exact zX)|fail)
        exact ⟨True.intro, _, .inr rfl⟩
    · have ek : k = p := by omega
      have hdec : (decide (k = 0) || decide (k < p)) = false := by simp; omega
      rw [hdec]
      repeat' (first|((first|(refine zT ?_;intro K' hK')|(refine zG ?_ ?_<;>(try refine zH ?_)<;>intro hguard<;>(try exact zX)<;>try intro K' hK'))<;>((try simp +contextual only [go_sem]);(repeat' first|(with_reducible refine hK' _ _ ?_;clear hK' K')|exact zY|with_reducible refine And.intro ?_ ?_|(with_reducible intro hpath;try exact zP)|(refine hK' _ _ ?_;clear hK' K')|fail);try refine zS ?_))|(refine zE ?_;refine hK _ _ ?_;clear hK K)|(refine zN ?_;try refine zS ?_)|refine zA ?_|(refine zB ?_;intro K hK)|(refine zC ?_ ?_<;>(try refine zH ?_)<;>intro hcond<;>try exact zX)|fail)
      exact ⟨True.intro, _, .inl (by rw [hlenI, ek])⟩
theorem orbit_ok (nexts : List Int) (s : Nat) : ACall Tryz.prog 91 [tints nexts, tint s] (.t (.fn 133 [.rptr [.int .i64 (s : Int)], .rptr [.slice (iRows nexts)]])) := by
  refine ACall.of_body Tryz.func91 rfl (by kernel_rfl) ?_
  simp only [entry, Tryz.ntmps91, tints, tint]
  refine zU ?_
  repeat' (first|((first|(refine zT ?_;intro K' hK')|(refine zG ?_ ?_<;>(try refine zH ?_)<;>intro hguard<;>(try exact zX)<;>try intro K' hK'))<;>((try simp +contextual only [go_sem]);(repeat' first|(with_reducible refine hK' _ _ ?_;clear hK' K')|exact zY|with_reducible refine And.intro ?_ ?_|(with_reducible intro hpath;try exact zP)|(refine hK' _ _ ?_;clear hK' K')|fail);try refine zS ?_))|(refine zE ?_;refine hK _ _ ?_;clear hK K)|(refine zN ?_;try refine zS ?_)|refine zA ?_|(refine zB ?_;intro K hK)|(refine zC ?_ ?_<;>(try refine zH ?_)<;>intro hcond<;>try exact zX)|fail)
  simp [Rets, aret, Blk.cells, ty, Tryz.results91, ares, toT1, toT, borrow, borrow0, capCell, toTree0]
end Go.Proofs.YtfkegnhpihoncaaGreat
set_option linter.all false
namespace Go.Proofs.YtfkegnhpihoncaaGreat
open Go.Sp
set_option linter.unusedSimpArgs false
set_option linter.unusedVariables false
set_option maxHeartbeats 4000000
set_option maxRecDepth 100000
theorem refhalf_ok (r : R) (hs : RSm r) (h : Int) : ACall Tryz.prog 73 [tR r, tint h] (tint (halfE r h)) := by
  have hC := refCheck_ok r hs
  unfold halfE
  by_cases he : ribE r = 0
  · have hc := (rok_of he).c
    have hH := refHalf_ok r.g hs.es hc
    have hlen : (endsL r.es).length ≤ 2000 := ends_len (g := r.g) hs.es hc
    rw [he] at hC
    rw [if_neg (by omega)]
    have hH2 : ACall Tryz.prog 22 [tG r.g] (tint (2 * ((endsL r.es).length : Int))) := hH
    clear hH hc he hs
    obtain ⟨n, es, ar⟩ := r
    simp only [R.g] at hH2 hlen ⊢
    generalize endsL es = L at *
    refine ACall.of_body Tryz.func73 rfl (by kernel_rfl) ?_
    simp only [entry, Tryz.ntmps73, tR, tint]
    refine zU ?_
    by_cases h1 : h < 0
    · rw [if_pos (.inl h1)]
      repeat' (first|((first|(refine zT ?_;intro K' hK')|(refine zG ?_ ?_<;>(try refine zH ?_)<;>intro hguard<;>(try exact zX)<;>try intro K' hK'))<;>((try simp +contextual only [go_sem, h1]);(repeat' first|(with_reducible refine hK' _ _ ?_;clear hK' K')|(with_reducible refine zK hC ?_;try simp +contextual only [go_sem, h1])|exact zY|with_reducible refine And.intro ?_ ?_|(with_reducible intro hpath;try exact zP)|(refine hK' _ _ ?_;clear hK' K')|fail);try refine zS ?_))|(refine zE ?_;refine hK _ _ ?_;clear hK K)|(refine zN ?_;try refine zS ?_)|refine zA ?_|(refine zB ?_;intro K hK)|(refine zC ?_ ?_<;>(try refine zH ?_)<;>intro hcond<;>try exact zX)|fail)
      simp [Rets, aret, Blk.cells, ty, Tryz.results73, ares, toT1, toT, borrow, borrow0, capCell, toTree0, tint]
    · by_cases h2 : 2 * (L.length : Int) ≤ h
      · rw [if_pos (.inr h2)]
        repeat' (first|((first|(refine zT ?_;intro K' hK')|(refine zG ?_ ?_<;>(try refine zH ?_)<;>intro hguard<;>(try exact zX)<;>try intro K' hK'))<;>((try simp +contextual only [go_sem, h1, h2]);(repeat' first|(with_reducible refine hK' _ _ ?_;clear hK' K')|((with_reducible first|refine zK hC ?_|refine zK hH2 ?_);try simp +contextual only [go_sem, h1, h2])|exact zY|with_reducible refine And.intro ?_ ?_|(with_reducible intro hpath;try exact zP)|(refine hK' _ _ ?_;clear hK' K')|fail);try refine zS ?_))|(refine zE ?_;refine hK _ _ ?_;clear hK K)|(refine zN ?_;try refine zS ?_)|refine zA ?_|(refine zB ?_;intro K hK)|(refine zC ?_ ?_<;>(try refine zH ?_)<;>intro hcond<;>try exact zX)|fail)
        simp [Rets, aret, Blk.cells, ty, Tryz.results73, ares, toT1, toT, borrow, borrow0, capCell, toTree0, tint]
      · rw [if_neg (by omega)]
        repeat' (first|((first|(refine zT ?_;intro K' hK')|(refine zG ?_ ?_<;>(try refine zH ?_)<;>intro hguard<;>(try exact zX)<;>try intro K' hK'))<;>((try simp +contextual only [go_sem, h1, h2]);(repeat' first|(with_reducible refine hK' _ _ ?_;clear hK' K')|((with_reducible first|refine zK hC ?_|refine zK hH2 ?_);try simp +contextual only [go_sem, h1, h2])|exact zY|with_reducible refine And.intro ?_ ?_|(with_reducible intro hpath;try exact zP)|(refine hK' _ _ ?_;clear hK' K')|fail);try refine zS ?_))|(refine zE ?_;refine hK _ _ ?_;clear hK K)|(refine zN ?_;try refine zS ?_)|refine zA ?_|(refine zB ?_;intro K hK)|(refine zC ?_ ?_<;>(try refine zH ?_)<;>intro hcond<;>try exact zX)|fail)
        simp [Rets, aret, Blk.cells, ty, Tryz.results73, ares, toT1, toT, borrow, borrow0, capCell, toTree0, tint]
  · rw [if_pos he]
    generalize ribE r = E at *
    obtain ⟨n, es, ar⟩ := r
    refine ACall.of_body Tryz.func73 rfl (by kernel_rfl) ?_
    simp only [entry, Tryz.ntmps73, tR, tint]
    refine zU ?_
    repeat' (first|((first|(refine zT ?_;intro K' hK')|(refine zG ?_ ?_<;>(try refine zH ?_)<;>intro hguard<;>(try exact zX)<;>try intro K' hK'))<;>((try simp +contextual only [go_sem, he]);(repeat' first|(with_reducible refine hK' _ _ ?_;clear hK' K')|(with_reducible refine zK hC ?_;try simp +contextual only [go_sem, he])|exact zY|with_reducible refine And.intro ?_ ?_|(with_reducible intro hpath;try exact zP)|(refine hK' _ _ ?_;clear hK' K')|fail);try refine zS ?_))|(refine zE ?_;refine hK _ _ ?_;clear hK K)|(refine zN ?_;try refine zS ?_)|refine zA ?_|(refine zB ?_;intro K hK)|(refine zC ?_ ?_<;>(try refine zH ?_)<;>intro hcond<;>try exact zX)|fail)
    simp [Rets, aret, Blk.cells, ty, Tryz.results73, ares, toT1, toT, borrow, borrow0, capCell, toTree0, tint]
theorem Behind_ok (r : R) (hs : RSm r) (hr : ROk r) (h : Nat) (hh : h < 2 * (endsL r.es).length) : ACall Tryz.prog 75 [tR r, tint h] (tint (nextR (endsL r.es) r.ar h)) := by
  obtain ⟨l, q1, q2, q3, q4⟩ := hr.row hh
  have hA : ACall Tryz.prog 74 [tG r.g, tint h] (tint (atL (endsL r.es) h)) := refAt_ok r.g hs.es hr.c h hh
  have hat := atL_range hr.c hh
  have hlen := hr.len
  have hll := hs.l l (List.mem_of_getElem? q1)
  have hnx : nextR (endsL r.es) r.ar h = nextI l (h : Int) := by unfold nextR; rw [q2]
  rw [hnx]
  obtain ⟨v, hv⟩ : ∃ v : Nat, atL (endsL r.es) h = v := ⟨(atL (endsL r.es) h).toNat, by omega⟩
  rw [hv] at hA q1 hat
  rw [Int.toNat_natCast] at q1
  have e1 := llRows_get q1
  have hvl : (v : Int) < r.ar.length := by omega
  have hnd := q3.nd
  clear hv hnx q2 q3 hr hs
  obtain ⟨n, es, ar⟩ := r
  simp only [R.g] at hA e1 hvl ⊢
  refine ACall.of_body Tryz.func75 rfl (by kernel_rfl) ?_
  simp only [entry, Tryz.ntmps75, tR, tint]
  refine zU ?_
  repeat' (first|((first|(refine zT ?_;intro K' hK')|(refine zG ?_ ?_<;>(try refine zH ?_)<;>intro hguard<;>(try exact zX)<;>try intro K' hK'))<;>((try simp +contextual only [go_sem, llRows_len, e1, hvl, Int.toNat_natCast]);(repeat' first|(with_reducible refine hK' _ _ ?_;clear hK' K')|(with_reducible refine zK hA ?_;try simp +contextual only [go_sem, llRows_len, e1, hvl, Int.toNat_natCast])|exact zY|with_reducible refine And.intro ?_ ?_|(with_reducible intro hpath;try exact zP)|(refine hK' _ _ ?_;clear hK' K')|fail);try refine zS ?_))|(refine zE ?_;refine hK _ _ ?_;clear hK K)|(refine zN ?_;try refine zS ?_)|refine zA ?_|(refine zB ?_;intro K hK)|(refine zC ?_ ?_<;>(try refine zH ?_)<;>intro hcond<;>try exact zX)|fail)
  refine AWp.loopx (α:=Nat) (fun i=>(⟨.c .any :: .c (.int .i64 (h : Int)) :: .c .any :: .c .any :: .c .any :: .c (.slice (iRows l) .none) :: .c (.int .i64 (i : Int)) :: .c .any :: .c .any :: .c .any :: .c .any :: .c .any :: .c .any :: .c .any :: .c .any :: .c .any :: .c .any :: .c .any :: .c .any :: .c .any :: .c .any :: .c .any :: .c .any :: .c .any :: .c .any :: .c .any :: .c .any :: .c .any :: .c .any :: .c .any :: .c .any :: .c .any :: .c .any :: .c .any :: .c .any :: [],[]⟩:St)) (fun i=>i ≤ l.idxOf (h : Int)) (fun i=>l.length - i) (0) (Weak.headL 0 35 [1, 5, 6] zW) ?_ (fun i hI=>?_)
  · exact Nat.zero_le _
  · have hi : i ≤ l.idxOf (h : Int) := hI
    clear hI
    obtain ⟨p1, p2⟩ := getD_idx q4
    have hltI : (i : Int) < l.length := by omega
    have f0 := List.getElem?_eq_getElem (show i < l.length by omega)
    have f1 := iRows_get f0
    by_cases e : l[i]'(by omega) = (h : Int)
    · have hidx := idx_at hnd (f0.trans (by rw [e]))
      have hml : (i + 1) % l.length < l.length := Nat.mod_lt _ (by omega)
      have hmlI : (((i + 1) % l.length : Nat) : Int) < l.length := by omega
      have k0 := List.getElem?_eq_getElem hml
      have k1 := iRows_get k0
      have hnv : nextI l (h : Int) = l[(i + 1) % l.length] := by
        unfold nextI; rw [hidx, List.getD_eq_getElem?_getD, k0]; rfl
      rw [hnv]
      have htm := tmodn i l.length
      rw [e] at f1
      generalize l[(i + 1) % l.length] = y at *
      generalize (i + 1) % l.length = q at *
      repeat' (first|((first|(refine zT ?_;intro K' hK')|(refine zG ?_ ?_<;>(try refine zH ?_)<;>intro hguard<;>(try exact zX)<;>try intro K' hK'))<;>((try simp +contextual only [go_sem, hltI, iRows_len, f1, k1, htm, hmlI, Int.toNat_natCast]);(repeat' first|(with_reducible refine hK' _ _ ?_;clear hK' K')|exact zY|with_reducible refine And.intro ?_ ?_|(with_reducible intro hpath;try exact zP)|(refine hK' _ _ ?_;clear hK' K')|fail);try refine zS ?_))|(refine zE ?_;refine hK _ _ ?_;clear hK K)|(refine zN ?_;try refine zS ?_)|refine zA ?_|(refine zB ?_;intro K hK)|(refine zC ?_ ?_<;>(try refine zH ?_)<;>intro hcond<;>try exact zX)|fail)
      simp [Rets, aret, Blk.cells, ty, Tryz.results75, ares, toT1, toT, borrow, borrow0, capCell, toTree0, tint]
    · have hne : i ≠ l.idxOf (h : Int) := fun e2 => by
        apply e
        have := (List.getElem?_eq_some_iff.1 p2).2
        rw [← this]; congr 1
      generalize l[i]'(by omega) = x at *
      repeat' (first|((first|(refine zT ?_;intro K' hK')|(refine zG ?_ ?_<;>(try refine zH ?_)<;>intro hguard<;>(try exact zX)<;>try intro K' hK'))<;>((try simp +contextual only [go_sem, hltI, iRows_len, f1, e, Int.toNat_natCast]);(repeat' first|(with_reducible refine hK' _ _ ?_;clear hK' K')|exact zY|with_reducible refine And.intro ?_ ?_|(with_reducible intro hpath;try exact zP)|(refine hK' _ _ ?_;clear hK' K')|fail);try refine zS ?_))|(refine zE ?_;refine hK _ _ ?_;clear hK K)|(refine zN ?_;try refine zS ?_)|refine zA ?_|(refine zB ?_;intro K hK)|(refine zC ?_ ?_<;>(try refine zH ?_)<;>intro hcond<;>try exact zX)|fail)
      refine ⟨i + 1,Weak.headN 0 35 [1, 5, 6] zW,?_,?_⟩
      · omega
      · omega
theorem refNext_ok (r : R) (hs : RSm r) (h : Int) : ACall Tryz.prog 35 [tR r, tint h] (.tup [tint (if halfE r h ≠ 0 then 0 else atL (endsL r.es) h.toNat), tint (if halfE r h ≠ 0 then 0 else nextR (endsL r.es) r.ar h.toNat), tint (halfE r h)]) := by
  have hH := refhalf_ok r hs h
  by_cases he : halfE r h = 0
  · obtain ⟨hz, hz1, hz2⟩ := half_zero he
    have hr := rok_of hz
    obtain ⟨k, rfl⟩ := Int.eq_ofNat_of_zero_le hz1
    have hkl : k < 2 * (endsL r.es).length := by omega
    have hB := Behind_ok r hs hr k hkl
    have hA : ACall Tryz.prog 74 [tG r.g, tint k] (tint (atL (endsL r.es) k)) := refAt_ok r.g hs.es hr.c k hkl
    rw [if_neg (by omega), if_neg (by omega), he]
    rw [he] at hH
    rw [Int.toNat_natCast]
    generalize nextR (endsL r.es) r.ar k = v at *
    generalize atL (endsL r.es) k = u at *
    clear he hz hr hs hz2 hkl
    obtain ⟨n, es, ar⟩ := r
    simp only [R.g] at hA
    refine ACall.of_body Tryz.func35 rfl (by kernel_rfl) ?_
    simp only [entry, Tryz.ntmps35, tR, tint]
    refine zU ?_
    repeat' (first|((first|(refine zT ?_;intro K' hK')|(refine zG ?_ ?_<;>(try refine zH ?_)<;>intro hguard<;>(try exact zX)<;>try intro K' hK'))<;>((try simp +contextual only [go_sem]);(repeat' first|(with_reducible refine hK' _ _ ?_;clear hK' K')|((with_reducible first|refine zK hH ?_|refine zK hB ?_|refine zK hA ?_);try simp +contextual only [go_sem])|exact zY|with_reducible refine And.intro ?_ ?_|(with_reducible intro hpath;try exact zP)|(refine hK' _ _ ?_;clear hK' K')|fail);try refine zS ?_))|(refine zE ?_;refine hK _ _ ?_;clear hK K)|(refine zN ?_;try refine zS ?_)|refine zA ?_|(refine zB ?_;intro K hK)|(refine zC ?_ ?_<;>(try refine zH ?_)<;>intro hcond<;>try exact zX)|fail)
    simp [Rets, aret, Blk.cells, ty, Tryz.results35, ares, toT1, toT, borrow, borrow0, capCell, toTree0, tint]
  · rw [if_pos he, if_pos he]
    generalize halfE r h = E at *
    obtain ⟨n, es, ar⟩ := r
    refine ACall.of_body Tryz.func35 rfl (by kernel_rfl) ?_
    simp only [entry, Tryz.ntmps35, tR, tint]
    refine zU ?_
    repeat' (first|((first|(refine zT ?_;intro K' hK')|(refine zG ?_ ?_<;>(try refine zH ?_)<;>intro hguard<;>(try exact zX)<;>try intro K' hK'))<;>((try simp +contextual only [go_sem, he]);(repeat' first|(with_reducible refine hK' _ _ ?_;clear hK' K')|(with_reducible refine zK hH ?_;try simp +contextual only [go_sem, he])|exact zY|with_reducible refine And.intro ?_ ?_|(with_reducible intro hpath;try exact zP)|(refine hK' _ _ ?_;clear hK' K')|fail);try refine zS ?_))|(refine zE ?_;refine hK _ _ ?_;clear hK K)|(refine zN ?_;try refine zS ?_)|refine zA ?_|(refine zB ?_;intro K hK)|(refine zC ?_ ?_<;>(try refine zH ?_)<;>intro hcond<;>try exact zX)|fail)
    simp [Rets, aret, Blk.cells, ty, Tryz.results35, ares, toT1, toT, borrow, borrow0, capCell, toTree0, tint]
end Go.Proofs.YtfkegnhpihoncaaGreat
