/- A part of the proof. -/
import Derived.Test.YtgklecfiflhjmaaPart15
import Derived.Test.YtgklecfiflhjmaaPart05
import Derived.Test.YtgklecfiflhjmaaLayerB
import Derived.Test.YtgklecfiflhjmaaLayerC
import Derived.Test.YtgklecfiflhjmaaPart02
import Derived.Test.YtgklecfiflhjmaaPart01
import Derived.Test.YtgklecfiflhjmaaLayerD
import Derived.Test.YtgklecfiflhjmaaPart13
set_option linter.all false
set_option maxHeartbeats 4000000
set_option maxRecDepth 100000
namespace Go.Proofs.Ytgklecfiflhjmaa
open Go.Sp
theorem mapInt : tMap Try.prog 100 = some (3, 3) := by simp only [ty]
theorem zeroI : tZero Try.prog 3 = some (.int .i64 0) := by simp only [ty]
theorem partsV_len (F : List Nat) (v : Nat) : (partsV F v).length = (rootsL F v).length := by simp [partsV]
theorem chI_in' {m b : Nat} {ls : List (List Int)} {n : Nat} (h : b + ls.length ≤ m) : blkIn m (.box (chI b ls ++ List.replicate n .any)) := chC_in' (by simpa using h)
theorem chI_put (b i : Nat) (ls : List (List Int)) (l : List Int) (R : List ACell) (h : i < ls.length) : (chI b ls ++ R).set i (.slice (iRows l) (.chain (i + b))) = chI b (ls.set i l) ++ R := by
 rw [List.set_append_left _ _ (by rw [chI_len]; exact h), chI_set]
theorem chI_at {b i : Nat} {ls : List (List Int)} {l : List Int} (R : List ACell) (h : ls[i]? = some l) : (chI b ls ++ R).drop i = .slice (iRows l) (.chain (i + b)) :: (chI b ls ++ R).drop (i + 1) := by
 have hl := (List.getElem?_eq_some_iff.1 h).1
 rw [List.drop_append_of_le_length (by rw [chI_len]; omega), List.drop_append_of_le_length (by rw [chI_len]; omega), chI_drop h]; rfl
theorem chI_new (b : Nat) (ls : List (List Int)) (l : List Int) (R : List ACell) : (chI b ls ++ [ACell.nils] ++ R).set ls.length (.slice (iRows l) (.chain (ls.length + b))) = chI b (ls ++ [l]) ++ R := by
 rw [List.append_assoc, List.set_append_right _ _ (by rw [chI_len]; exact Nat.le_refl _), chI_len, Nat.sub_self]
 unfold chI
 rw [List.map_append, List.map_cons, List.map_nil, chC_snoc]
 simp
theorem chI_newAt (b : Nat) (ls : List (List Int)) (R : List ACell) : (chI b ls ++ [ACell.nils] ++ R).drop ls.length = .nils :: R := by
 rw [List.append_assoc, List.drop_append, chI_len, Nat.sub_self, List.drop_eq_nil_of_le (by rw [chI_len]; exact Nat.le_refl _)]; rfl
theorem chI_newGet (b : Nat) (ls : List (List Int)) (R : List ACell) : (chI b ls ++ [ACell.nils] ++ R)[ls.length]? = some .nils := by
 have := congrArg (·[0]?) (chI_newAt b ls R)
 simpa using this
theorem chI_get' {b i : Nat} {ls : List (List Int)} {l : List Int} (R : List ACell) (h : ls[i]? = some l) : (chI b ls ++ R)[i]? = some (.slice (iRows l) (.chain (i + b))) := by
 have hl := (List.getElem?_eq_some_iff.1 h).1
 rw [List.getElem?_append_left (by rw [chI_len]; exact hl)]
 exact chI_get h
theorem chJ_snoc (ls : List (List Int)) (l : List Int) : chJ (ls ++ [l]) = chJ ls ++ [.chain l.length 1] := by
 unfold chJ; rw [List.map_append, List.map_cons, List.map_nil, chB_snoc, iRows_len]
theorem chI_no {j b : Nat} {ls : List (List Int)} : ∀ c, c ∈ chI b ls → noJ j c = true := chC_no
@[simp] theorem chJ_parts (F : List Nat) (v : Nat) : (chJ (partsV F v)).take (rootsL F v).length = chJ (partsV F v) := chJ_take (by rw [partsV_len]; exact Nat.le_refl _)
theorem visit_ok (b0 : Blk) (hb0 : ∀ m, 10 ≤ m → blkIn m b0) (L : List (Nat × Nat)) (hL : ∀ p, p ∈ L → p.1 < 12 ∧ p.2 < 12) (hLl : L.length ≤ 2000) :
  ∀ (k v : Nat) (by' : Int) (s : BS) (K U : Int) (j cap : Nat) (X : List Blk), v < 12 → s.seen.getD v 0 = 0 → unseen s ≤ k → BOK L.length s → BLe L.length K U s → K ≤ 2 ^ 30 → U ≤ 2 ^ 30 → -1 ≤ by' → by' < 2 ^ 30 → VX s j cap X →
   ACallE Try.prog 75 (VH b0 L s j cap X) ([.c (.int .i64 (v : Int)), .c (.int .i64 by')] ++ vCaps.map capVal)
    (fun H' r => r = .tup [] ∧ ∃ j' cap' X', VX (visB L k v by' s) j' cap' X' ∧ H' = VH b0 L (visB L k v by' s) j' cap' X') := by
 intro k
 induction k with
 | zero =>
  intro v by' s K U j cap X hv h0 hu h
  have := (enterB_ok h hv h0).2
  omega
 | succ k ih =>
 intro v by' s K U j cap X hv h0 hu h hb hK1 hU1 hy1 hy2 hX
 obtain ⟨g1, g2⟩ := enterB_ok h hv h0
 refine ACallE.of_body Try.func75 rfl (by kernel_rfl) ?_
 simp only [entry, vCaps, VH, capVal, ofTree, List.map_cons, List.map_nil, Try.ntmps75, List.length_cons, List.length_nil, Nat.reduceAdd, Nat.reduceSub, List.replicate_succ, List.replicate_zero, List.cons_append, List.nil_append]
 have ls := h.ls
 have ll := h.ll
 have htm := h.tm
 have etm : ((s.time : Nat) : Int) + 1 = ((s.time + 1 : Nat) : Int) := by omega
 have s1 := fC_set s.seen v (s.time + 1)
 have s2 := fC_set s.low v (s.time + 1)
 have s3 := fC_set2 s.seen v (s.time + 1)
 have s4 := fC_set2 s.low v (s.time + 1)
 have ad := atC_drop (L := L) hv
 have al := atC_len L
 have hvI : (v : Int) < ((12 : Nat) : Int) := by omega
 have hv0 : 0 ≤ (v : Int) := by omega
 have hv11 : v ≤ 11 := by omega
 repeat' ((fail_if_success (with_reducible refine AWp.atSeq 1 ?_));(fail_if_success (with_reducible refine AWp.atLast 1 ?_));first|((first|(refine zT ?_;intro K' hK')|(refine zG ?_ ?_<;>(try refine zH ?_)<;>intro hguard<;>(try exact zX)<;>try intro K' hK'))<;>((try simp +contextual only [go_sem, etm]);(repeat' first|(with_reducible refine hK' _ _ ?_;clear hK' K')|exact zY|with_reducible refine And.intro ?_ ?_|(with_reducible intro hpath;try exact zP)|(refine hK' _ _ ?_;clear hK' K')|fail);try refine zS ?_))|(refine zE ?_;refine hK _ _ ?_;clear hK K)|(refine zN ?_;try refine zS ?_)|refine zA ?_|(refine zB ?_;intro K hK)|(refine zC ?_ ?_<;>(try refine zH ?_)<;>intro hcond<;>try exact zX)|fail)
 refine AWp.seq (AWp.of_adr (by kernel_rfl) ?_)
 refine ADr.segS' 8 [5, 7] [(18, .c (.int .i64 (v : Int))), (19, .c (.int .i64 (v : Int))), (20, .c (.int .i64 ((s.time + 1 : Nat) : Int))), (21, .c (.int .i64 ((s.time + 1 : Nat) : Int))), (22, .c (.ptr 5 v)), (23, .c (.ptr 6 v))] (by kernel_rfl) (by decide) (by decide) (by kernel_rfl) (zQS (And.intro hvI hv0)) ?_
 refine SegRun.vc rfl rfl (fun K hK => ?_)
 simp only [go_sem, s1, s3, fC_len, ls, hv11, true_and]
 refine hK _ _ ⟨zQS (And.intro hvI hv0), ?_⟩
 clear hK K
 simp only [setVals, aput, aeval, List.getD_cons_succ, List.getD_cons_zero, List.set_cons_succ, List.set_cons_zero]
 refine SegRun.vc rfl rfl (fun K hK => ?_)
 simp only [go_sem, s2, s4, fC_len, ll, hv11, true_and]
 refine hK _ _ ⟨zQS (And.intro hvI hv0), ?_⟩
 clear hK K
 refine ADr.done (by decide) (AThen.n ?_)
 simp only [setVals, aput, aeval, List.getD_cons_succ, List.getD_cons_zero, List.set_cons_succ, List.set_cons_zero]
 have ag := atC_get (L := L) hv
 have eb : (-9223372036854775808 : Int) ≤ by' ∧ by' ≤ 9223372036854775807 := by omega
 refine zR (zc @ag (zc @al (zc @hvI (zc @hv0 (zc @hv11 (zc @iRows_len (zc @zI_len trivial))))))) trivial trivial ?_
 refine AWp.loopx (α:=(Nat × Nat × Nat × List Blk)) (fun q=>(⟨.c (.int .i64 (v : Int)) :: .c (.int .i64 by') :: .c .any :: .c (.ptr 5 0) :: .c (.ptr 6 0) :: .c .any :: .c (.ptr 1 0) :: .c (.ptr 8 0) :: .c (.ptr 9 0) :: .c (.ptr 3 0) :: .c .any :: .c .any :: .c .any :: .c .any :: .c .any :: .c .any :: .c .any :: .c .any :: .c .any :: .c .any :: .c .any :: .c .any :: .c .any :: .c .any :: .c .any :: .c .any :: .c (.slice (iRows (zI (atV L v))) .none) :: .c (.int .i64 ((atV L v).length : Int)) :: .c (.int .i64 (q.1 : Int)) :: .c .any :: .c .any :: .c .any :: .c .any :: .c .any :: .c .any :: .c .any :: .c .any :: .c .any :: .c .any :: .c .any :: .c .any :: .c .any :: .c .any :: .c .any :: .c .any :: .c .any :: .c .any :: .c .any :: .c .any :: .c .any :: .c .any :: .c .any :: .c .any :: .c .any :: .c .any :: .c .any :: .c .any :: .c .any :: .c .any :: .c .any :: .c .any :: .c .any :: .c .any :: .c .any :: .c .any :: .c .any :: .c .any :: .c .any :: .c .any :: .c .any :: .c .any :: .c .any :: .c .any :: .c .any :: .c .any :: .c .any :: .c .any :: .c .any :: .c .any :: .c .any :: .c .any :: .c .any :: .c .any :: .c .any :: .c .any :: .c .any :: .c .any :: .c .any :: .c .any :: .c .any :: .c .any :: .c .any :: .c .any :: .c .any :: .c .any :: .c .any :: .c .any :: .c .any :: .c .any :: .c .any :: .c .any :: .c .any :: .c .any :: .c .any :: .c .any :: .c .any :: .c .any :: .c .any :: .c .any :: .c .any :: .c .any :: .c .any :: .c .any :: [],VH b0 L (((atV L v).take q.1).foldl (stepB L (visB L k) v by') (enterB v s)) q.2.1 q.2.2.1 q.2.2.2⟩:St)) (fun q=>q.1 ≤ (atV L v).length ∧ VX (((atV L v).take q.1).foldl (stepB L (visB L k) v by') (enterB v s)) q.2.1 q.2.2.1 q.2.2.2) (fun q=>(atV L v).length - q.1) ((0, j, cap, X)) (Weak.keepM 113 [0, 1, 3, 4, 6, 7, 8, 9, 26, 27, 28]) ?_ (fun q hI=>?_)
 ·exact ⟨Nat.zero_le _, hX.vec, hX.cap, hX.inn⟩
 ·obtain ⟨i, j, cap, X⟩ := q
  obtain ⟨hi, hX⟩ := hI
  simp only at hi hX ⊢
  have mid := mid_ok hL (by' := by') (fun v by' s K U => visB_ok hL k v by' s K U) hv h0 hu h hb i hi
  by_cases hlt : i < (atV L v).length
  ·
   have hltI : (i : Int) < ((atV L v).length : Int) := by omega
   have hal := atV_len L v
   have hfold : ((atV L v).take (i + 1)).foldl (stepB L (visB L k) v by') (enterB v s) = stepB L (visB L k) v by' (((atV L v).take i).foldl (stepB L (visB L k) v by') (enterB v s)) (atV L v)[i] := by
    rw [List.take_succ_eq_append_getElem hlt, List.foldl_append]; rfl
   have hem := List.getElem_mem hlt
   have heg := List.getElem?_eq_getElem hlt
   generalize (atV L v)[i] = e at *
   generalize ((atV L v).take i).foldl (stepB L (visB L k) v by') (enterB v s) = si at *
   have hw := other_lt hL hem
   obtain ⟨hel, hne, hor⟩ := atV_mem hem
   have hlg : L[e]? = some (L.getD e (0, 0)) := by rw [List.getD_eq_getElem?_getD, List.getElem?_eq_getElem hel]; rfl
   have hstp : stepB L (visB L k) v by' si e = stepB L (visB L k) v by' si e := rfl
   conv at hstp => rhs; unfold stepB
   simp only at hstp
   have hp12 := hL _ (List.mem_of_getElem? hlg)
   generalize L.getD e (0, 0) = p at *
   have ew : (p.1 : Int) + p.2 - v = ((p.1 + p.2 - v : Nat) : Int) := by omega
   generalize p.1 + p.2 - v = w at *
   have e1 := zI_get heg
   have e2 := LI_get hlg
   have sw := fC_get (F := si.seen) (i := w) (by rw [mid.ok.ls]; exact hw)
   have hel0 : 0 ≤ (e : Int) := by omega
   have helI : (e : Int) < ((L.length : Nat) : Int) := by omega
   have hlo := mid.ok.ls
   have hll := mid.ok.ll
   rw [hstp] at hfold
   have htm12 := mid.ok.tm
   have htm1 := mid.tm
   have hmul : (L.length : Int) * ((si.time : Int) - 1) ≤ 2000 * 11 := Int.mul_le_mul (by omega) (by omega) (by omega) (by omega)
   have hol : si.opn.length ≤ 2 ^ 31 := by have := mid.b1; omega
   have hul : si.out.length ≤ 2 ^ 31 := by have := mid.b2; omega
   by_cases hby : (e : Int) = by'
   ·rw [if_pos hby] at hfold
    simp only [VH]
    subst hby
    repeat' (first|((first|(refine zT ?_;intro K' hK')|(refine zG ?_ ?_<;>(try refine zH ?_)<;>intro hguard<;>(try exact zX)<;>try intro K' hK'))<;>((try simp +contextual only [go_sem, hltI, e1, e2, ew, hel0, helI, LI_len, zI_len, iRows_len, Int.toNat_natCast, Nat.mul_one]);(repeat' first|(with_reducible refine hK' _ _ ?_;clear hK' K')|exact zY|with_reducible refine And.intro ?_ ?_|(with_reducible intro hpath;try exact zP)|(refine hK' _ _ ?_;clear hK' K')|fail);try refine zS ?_))|(refine zE ?_;refine hK _ _ ?_;clear hK K)|(refine zN ?_;try refine zS ?_)|refine zA ?_|(refine zB ?_;intro K hK)|(refine zC ?_ ?_<;>(try refine zH ?_)<;>intro hcond<;>try exact zX)|fail)
    refine ⟨(i + 1, j, cap, X),?_,?_,?_⟩
    ·simp only [hfold]; exact Weak.keepM 113 [0, 1, 3, 4, 6, 7, 8, 9, 26, 27, 28]
    ·exact ⟨hlt, by simp only [hfold]; exact hX⟩
    ·simp only; omega
   rw [if_neg hby] at hfold
   by_cases hs0 : si.seen.getD w 0 = 0
   ·rw [if_pos hs0] at hfold
    rw [hs0] at sw
    simp only [VH]
    repeat' ((fail_if_success (with_reducible refine AWp.atSeq 9 ?_));(fail_if_success (with_reducible refine AWp.atLast 9 ?_));first|((first|(refine zT ?_;intro K' hK')|(refine zG ?_ ?_<;>(try refine zH ?_)<;>intro hguard<;>(try exact zX)<;>try intro K' hK'))<;>((try simp +contextual only [go_sem, hltI, e1, e2, ew, hby, sw, hel0, helI, LI_len, zI_len, iRows_len, Int.toNat_natCast, Nat.mul_one]);(repeat' first|(with_reducible refine hK' _ _ ?_;clear hK' K')|exact zY|with_reducible refine And.intro ?_ ?_|(with_reducible intro hpath;try exact zP)|(refine hK' _ _ ?_;clear hK' K')|fail);try refine zS ?_))|(refine zE ?_;refine hK _ _ ?_;clear hK K)|(refine zN ?_;try refine zS ?_)|refine zA ?_|(refine zB ?_;intro K hK)|(refine zC ?_ ?_<;>(try refine zH ?_)<;>intro hcond<;>try exact zX)|fail)
    refine AWp.seqEx (α:=(Nat × Nat × List Blk)) (fun a=>.c (.int .i64 (v : Int)) :: .c (.int .i64 by') :: .c .any :: .c (.ptr 5 0) :: .c (.ptr 6 0) :: .c .any :: .c (.ptr 1 0) :: .c (.ptr 8 0) :: .c (.ptr 9 0) :: .c (.ptr 3 0) :: .c .any :: .c .any :: .c .any :: .c (.int .i64 (e : Int)) :: .c (.int .i64 (w : Int)) :: .c (.int .i64 (si.opn.length : Int)) :: .c .any :: .c .any :: .c .any :: .c .any :: .c .any :: .c .any :: .c .any :: .c .any :: .c .any :: .c .any :: .c (.slice (iRows (zI (atV L v))) .none) :: .c (.int .i64 ((atV L v).length : Int)) :: .c (.int .i64 (i : Int)) :: .c .any :: .c .any :: .c .any :: .c .any :: .c .any :: .c .any :: .c .any :: .c .any :: .c .any :: .c .any :: .c .any :: .c .any :: .c .any :: .c .any :: .c .any :: .c .any :: .c .any :: .c .any :: .c .any :: .c .any :: .c .any :: .c .any :: .c .any :: .c .any :: .c .any :: .c .any :: .c .any :: .c .any :: .c .any :: .c .any :: .c .any :: .c .any :: .c .any :: .c .any :: .c .any :: .c .any :: .c .any :: .c .any :: .c .any :: .c .any :: .c .any :: .c .any :: .c .any :: .c .any :: .c .any :: .c .any :: .c .any :: .c .any :: .c .any :: .c .any :: .c .any :: .c .any :: .c .any :: .c .any :: .c .any :: .c .any :: .c .any :: .c .any :: .c .any :: .c .any :: .c .any :: .c .any :: .c .any :: .c .any :: .c .any :: .c .any :: .c .any :: .c .any :: .c .any :: .c .any :: .c .any :: .c .any :: .c .any :: .c .any :: .c .any :: .c .any :: .c .any :: .c .any :: .c .any :: .c .any :: .c .any :: .c .any :: .c .any :: .c .any :: []) (fun a=>VH b0 L (pushB e si) a.1 a.2.1 a.2.2) (fun a=>VX (pushB e si) a.1 a.2.1 a.2.2) ?_ (fun a hI=>?_)
    ·
     repeat' (first|((with_reducible refine AWp.seq (AWp.of_reg (id:=9) (AReg.pre 3 (fun K hK=>?_))));simp only [List.take_succ_cons,List.take_zero])|((with_reducible refine AWp.of_reg (id:=9) (AReg.pre 3 (fun K hK=>?_)));simp only [List.take_succ_cons,List.take_zero])|((first|(refine zT ?_;intro K' hK')|(refine zG ?_ ?_<;>(try refine zH ?_)<;>intro hguard<;>(try exact zX)<;>try intro K' hK'))<;>((try simp +contextual only [go_sem]);(repeat' first|(with_reducible refine hK' _ _ ?_;clear hK' K')|exact zY|with_reducible refine And.intro ?_ ?_|(with_reducible intro hpath;try exact zP)|(refine hK' _ _ ?_;clear hK' K')|fail);try refine zS ?_))|(refine zE ?_;refine hK _ _ ?_;clear hK K)|(refine zN ?_;try refine zS ?_)|refine zA ?_|(refine zB ?_;intro K hK)|(refine zC ?_ ?_<;>(try refine zH ?_)<;>intro hcond<;>try exact zX)|fail)
     have hvh := hX.vec
     have hvc := hX.cap
     have hin := hX.inn
     have ecl : (fC si.opn).length = si.opn.length := fC_len _
     have esn : fC si.opn ++ [cellOf (.int .i64 (e : Int))] = fC (si.opn ++ [e]) := by simp [fC, cellOf, ofTree]
     refine AReg.stepN rfl rfl (step_append_vec (j := j + 10) (e := 3) (e2 := 3) (by' := 8) (z := .int .i64 0) (used := fC si.opn) (tr := .int .i64 (e : Int)) (tok := .exact) rfl (by kernel_rfl) (by kernel_rfl) (by kernel_rfl) (by kernel_rfl) rfl (by kernel_rfl) rfl (.inr (by exact hvh)) ecl hvc rfl (by omega) (by omega)) ?_
     have e2z : ((si.opn.length : Nat) + 1) = (si.opn ++ [e]).length := by simp
     rintro r H' (⟨hlc, rfl, rfl⟩ | ⟨cap', hc', rfl, rfl⟩)
     ·
      rw [esn, e2z]
      simp only [aput, aeval, List.set_cons_succ, List.set_cons_zero, List.cons_append, List.length_cons]
      refine AReg.rest (fun K hK => ?_)
      repeat' (first|((first|(refine zT ?_;intro K' hK')|(refine zG ?_ ?_<;>(try refine zH ?_)<;>intro hguard<;>(try exact zX)<;>try intro K' hK'))<;>((try simp +contextual only [go_sem]);(repeat' first|(with_reducible refine hK' _ _ ?_;clear hK' K')|exact zY|with_reducible refine And.intro ?_ ?_|(with_reducible intro hpath;try exact zP)|(refine hK' _ _ ?_;clear hK' K')|fail);try refine zS ?_))|(refine zE ?_;refine hK _ _ ?_;clear hK K)|(refine zN ?_;try refine zS ?_)|refine zA ?_|(refine zB ?_;intro K hK)|(refine zC ?_ ?_<;>(try refine zH ?_)<;>intro hcond<;>try exact zX)|fail)
      refine ⟨(j, cap, X.set j (.box (fC (si.opn ++ [e]) ++ List.replicate (cap - (si.opn.length + 1)) .any))),?_,?_⟩
      ·simp only [VH_push]; exact Weak.keepM 113 [0, 1, 3, 4, 6, 7, 8, 9, 13, 14, 15, 26, 27, 28]
      ·exact hX.push_in hlc
     ·
      rw [esn, e2z]
      simp only [aput, aeval, List.set_cons_succ, List.set_cons_zero, List.cons_append, List.length_cons]
      refine AReg.rest (fun K hK => ?_)
      repeat' (first|((first|(refine zT ?_;intro K' hK')|(refine zG ?_ ?_<;>(try refine zH ?_)<;>intro hguard<;>(try exact zX)<;>try intro K' hK'))<;>((try simp +contextual only [go_sem]);(repeat' first|(with_reducible refine hK' _ _ ?_;clear hK' K')|exact zY|with_reducible refine And.intro ?_ ?_|(with_reducible intro hpath;try exact zP)|(refine hK' _ _ ?_;clear hK' K')|fail);try refine zS ?_))|(refine zE ?_;refine hK _ _ ?_;clear hK K)|(refine zN ?_;try refine zS ?_)|refine zA ?_|(refine zB ?_;intro K hK)|(refine zC ?_ ?_<;>(try refine zH ?_)<;>intro hcond<;>try exact zX)|fail)
      refine ⟨(X.length, cap', X ++ [.box (fC (si.opn ++ [e]) ++ List.replicate (cap' - (si.opn.length + 1)) .any)]),?_,?_⟩
      ·simp only [VH_push]; exact Weak.keepM 113 [0, 1, 3, 4, 6, 7, 8, 9, 13, 14, 15, 26, 27, 28]
      ·exact hX.push_new hc'
    ·obtain ⟨j, cap, X⟩ := a
     simp only at hI ⊢
     have hun : unseen (pushB e si) ≤ k := by
      have a1 := mid.ok.tm
      have a2 := h.tm
      show unseen si ≤ k
      omega
     have hpk := pushB_ok mid.ok hel
     have hle : BLe L.length (si.opn.length + 1 - L.length * si.time) (si.out.length - L.length * si.time) (pushB e si) := by
      refine ⟨?_, ?_⟩
      ·show ((si.opn ++ [e]).length : Int) ≤ _ + (L.length : Int) * si.time
       rw [List.length_append]; simp only [List.length_singleton]; omega
      ·show (si.out.length : Int) ≤ _ + (L.length : Int) * si.time
       omega
     have hmz : 0 ≤ (L.length : Int) * si.time := Int.mul_nonneg (by omega) (by omega)
     have e4 : (L.length : Int) * ((si.time : Int) - 1) = L.length * si.time - L.length := by rw [Int.mul_sub, Int.mul_one]
     have hKa : (si.opn.length : Int) + 1 - L.length * si.time ≤ 2 ^ 30 := by have := mid.b1; rw [e4] at this; omega
     have hUa : (si.out.length : Int) - L.length * si.time ≤ 2 ^ 30 := by have := mid.b2; rw [e4] at this; omega
     have hcall := ih w (e : Int) (pushB e si) (si.opn.length + 1 - L.length * si.time) (si.out.length - L.length * si.time) j cap X hw hs0 hun hpk hle hKa hUa (by omega) (by omega) hI
     have hvs := visB_ok hL k w (e : Int) (pushB e si) (si.opn.length + 1 - L.length * si.time) (si.out.length - L.length * si.time) hw hs0 hun hpk hle
     have hpre := visB_pre L k w (e : Int) (pushB e si)
     simp only [VH] at hcall ⊢
     repeat' (first|((with_reducible refine AWp.seq (AWp.of_reg (id:=10) (AReg.pre 3 (fun K hK=>?_))));simp only [List.take_succ_cons,List.take_zero])|((with_reducible refine AWp.of_reg (id:=10) (AReg.pre 3 (fun K hK=>?_)));simp only [List.take_succ_cons,List.take_zero])|((first|(refine zT ?_;intro K' hK')|(refine zG ?_ ?_<;>(try refine zH ?_)<;>intro hguard<;>(try exact zX)<;>try intro K' hK'))<;>((try simp +contextual only [go_sem]);(repeat' first|(with_reducible refine hK' _ _ ?_;clear hK' K')|exact zY|with_reducible refine And.intro ?_ ?_|(with_reducible intro hpath;try exact zP)|(refine hK' _ _ ?_;clear hK' K')|fail);try refine zS ?_))|(refine zE ?_;refine hK _ _ ?_;clear hK K)|(refine zN ?_;try refine zS ?_)|refine zA ?_|(refine zB ?_;intro K hK)|(refine zC ?_ ?_<;>(try refine zH ?_)<;>intro hcond<;>try exact zX)|fail)
     refine AReg.stepN rfl rfl (step_callE rfl rfl hcall) ?_
     rintro r H' ⟨rfl, j2, cap2, X2, hX2, rfl⟩
     simp only [aput, aeval, List.set_cons_succ, List.set_cons_zero]
     refine AReg.rest (fun K hK => ?_)
     generalize visB L k w (e : Int) (pushB e si) = s1 at *
     have k1 := hvs.ok.ll
     have k2 := hvs.ok.ls
     have lv := fC_get (F := s1.low) (i := v) (by omega)
     have lw := fC_get (F := s1.low) (i := w) (by omega)
     have sv := fC_get (F := s1.seen) (i := v) (by omega)
     have emin : min ((s1.low.getD v 0 : Nat) : Int) ((s1.low.getD w 0 : Nat) : Int) = ((min (s1.low.getD v 0) (s1.low.getD w 0) : Nat) : Int) := by omega
     have hlwt : s1.low.getD w 0 ≤ s1.time := getD_le hvs.ok.lb
     have hlB := lowB_ok (v := v) hvs.ok hlwt
     have hfl : fC (lowB v (s1.low.getD w 0) s1).low = fC (s1.low.set v (min (s1.low.getD v 0) (s1.low.getD w 0))) := rfl
     have hcl : closeB v w si.opn.length (lowB v (s1.low.getD w 0) s1) = if s1.seen.getD v 0 ≤ (s1.low.set v (min (s1.low.getD v 0) (s1.low.getD w 0))).getD w 0 then (⟨s1.time, s1.seen, s1.low.set v (min (s1.low.getD v 0) (s1.low.getD w 0)), s1.opn.take si.opn.length, s1.out ++ [isortN (s1.opn.drop si.opn.length)]⟩ : BS) else ⟨s1.time, s1.seen, s1.low.set v (min (s1.low.getD v 0) (s1.low.getD w 0)), s1.opn, s1.out⟩ := rfl
     rw [hcl] at hfold
     generalize hmi : min (s1.low.getD v 0) (s1.low.getD w 0) = mi at *
     have s1a := fC_set s1.low v mi
     have s1b := fC_set2 s1.low v mi
     have lw2 := fC_get (F := s1.low.set v mi) (i := w) (by rw [List.length_set]; omega)
     generalize hlw2 : (s1.low.set v mi).getD w 0 = lwm at *
     generalize hsvm : s1.seen.getD v 0 = svm at *
     by_cases hge : svm ≤ lwm
     ·rw [if_pos hge] at hfold
      have hgeI : (svm : Int) ≤ (lwm : Int) := by omega
      repeat' ((fail_if_success (with_reducible refine AWp.atSeq 13 ?_));(fail_if_success (with_reducible refine AWp.atLast 13 ?_));first|((first|(refine zT ?_;intro K' hK')|(refine zG ?_ ?_<;>(try refine zH ?_)<;>intro hguard<;>(try exact zX)<;>try intro K' hK'))<;>((try simp +contextual only [go_sem, hge, hgeI, lv, lw, sv, emin, s1a, s1b, lw2, fC_len, k1, k2, Int.toNat_natCast, Nat.mul_one]);(repeat' first|(with_reducible refine hK' _ _ ?_;clear hK' K')|exact zY|with_reducible refine And.intro ?_ ?_|(with_reducible intro hpath;try exact zP)|(refine hK' _ _ ?_;clear hK' K')|fail);try refine zS ?_))|(refine zE ?_;refine hK _ _ ?_;clear hK K)|(refine zN ?_;try refine zS ?_)|refine zA ?_|(refine zB ?_;intro K hK)|(refine zC ?_ ?_<;>(try refine zH ?_)<;>intro hcond<;>try exact zX)|fail)
      obtain ⟨Y, hY⟩ := hpre
      have hlt2 : si.opn.length < s1.opn.length := by
       rw [hY]; show _ < ((si.opn ++ [e]) ++ Y).length
       simp only [List.length_append, List.length_singleton]; omega
      have hx2v := hX2.vec
      have hx2c := hX2.cap
      have h12 := hvs.ok.tm
      have hm2 : (L.length : Int) * (s1.time : Int) ≤ 2000 * 12 := Int.mul_le_mul (by omega) (by omega) (by omega) (by omega)
      have hbl := hvs.le
      have hs1l : s1.opn.length ≤ si.opn.length + 24001 := by have := hbl.1; omega
      have hs1u : s1.out.length ≤ 2 ^ 31 := by have := hbl.2; omega
      have hVal := fun (H : List Blk) => Values_ok H (j2 + 10) si.opn.length (s1.opn.length - si.opn.length) (cap2 - si.opn.length)
      have hSo := Sorted_ok (zI (s1.opn.drop si.opn.length)) (by
       intro hn
       have := congrArg List.length hn
       rw [zI_len, List.length_drop] at this
       simp only [List.length_nil] at this; omega) (by rw [zI_len, List.length_drop]; omega)
      rw [sort_zI] at hSo
      refine AWp.seq (AWp.of_adr (by kernel_rfl) ?_)
      refine ADr.segS' 7 [3, 4, 5, 6] [(80, .c (.slice (llRows (oI s1.out)) (.chain 4))), (81, .c (.vec (j2 + 10) s1.opn.length cap2)), (82, .c (.int .i64 (si.opn.length : Int)))] (by kernel_rfl) (by decide) (by decide) (by kernel_rfl) (zQS trivial) ?_
      simp only [setVals, aput, aeval, List.getD_cons_succ, List.getD_cons_zero, List.set_cons_succ, List.set_cons_zero]
      refine SegRun.cons' rfl (.inl ⟨rfl, (step_rest_vec 27 (.tmp 81) (.tmp 82) rfl (e := 3) (by kernel_rfl) (by kernel_rfl) rfl (m := si.opn.length) (kk := .i64) rfl hlt2 hx2c).n⟩) (by rintro r H' ⟨rfl, rfl⟩; exact zQS trivial) ?_
      rintro r H' ⟨rfl, rfl⟩
      simp only [setVals, aput, aeval, List.getD_cons_succ, List.getD_cons_zero, List.set_cons_succ, List.set_cons_zero]
      refine SegRun.cons' rfl (.inl ⟨rfl, (step_call _ _ _ rfl 77 [] rfl _ (hVal _)).n⟩) (by rintro r H' ⟨rfl, rfl⟩; exact zQS trivial) ?_
      rintro r H' ⟨rfl, rfl⟩
      simp only [List.cons_append, List.length_cons]
      simp only [setVals, aput, aeval, List.getD_cons_succ, List.getD_cons_zero, List.set_cons_succ, List.set_cons_zero]
      generalize hHH : (b0 :: Blk.box [.slice (pRows (LI L)) .none] :: Blk.box (atC L) :: Blk.box [.slice (llRows (oI s1.out)) (.chain 4)] :: Blk.chain s1.out.length 1 :: Blk.box (fC s1.seen) :: Blk.box (fC (s1.low.set v mi)) :: Blk.box [.int .i64 (s1.time : Int)] :: Blk.box [.vec (j2 + 10) s1.opn.length cap2] :: Blk.box [.fn 75 vCaps] :: (X2 ++ [Blk.box [.ref (j2 + 10) 1 si.opn.length (s1.opn.length - si.opn.length) (cap2 - si.opn.length)]]) : List Blk) = HH
      have hb2 : HH[X2.length + 1 + 1 + 1 + 1 + 1 + 1 + 1 + 1 + 1 + 1]? = some (.box [.ref (j2 + 10) 1 si.opn.length (s1.opn.length - si.opn.length) (cap2 - si.opn.length)]) := by
       rw [← hHH]
       simp only [List.getElem?_cons_succ]
       rw [List.getElem?_append_right (Nat.le_refl _), Nat.sub_self]; rfl
      have hb3 : HH[j2 + 10]? = some (.box (fC s1.opn ++ List.replicate (cap2 - s1.opn.length) .any)) := by
       rw [← hHH]
       show (X2 ++ _)[j2]? = _
       rw [List.getElem?_append_left (List.getElem?_eq_some_iff.1 hx2v).1]; exact hx2v
      have hsr := see_rest (H := HH) (j := j2 + 10) (m := si.opn.length) (cap := cap2) (by omega) hx2c hb3
      have hbo : borrow2 HH (.fn 89 [.ptr (X2.length + 1 + 1 + 1 + 1 + 1 + 1 + 1 + 1 + 1 + 1) 0]) = some (.fn 89 [.rptr [.slice (iRows (zI (s1.opn.drop si.opn.length)))]]) := by
       unfold borrow2
       simp only [hb2, hsr, Option.map_some]
      have hSc := ACallX.h2 (ts := [.t (.fn 89 [.rptr [.slice (iRows (zI (s1.opn.drop si.opn.length)))]])]) hSo (H := HH) (args := [.c (.fn 89 [.ptr (X2.length + 1 + 1 + 1 + 1 + 1 + 1 + 1 + 1 + 1 + 1) 0])]) (by simp [toT, hbo])
      refine SegRun.cons' rfl (.inl ⟨rfl, (step_call _ _ _ rfl 76 [] rfl _ hSc).n⟩) (by rintro r H' ⟨rfl, rfl⟩; subst hHH; exact zQS trivial) ?_
      rintro r H' ⟨rfl, rfl⟩
      subst hHH
      clear hb2 hb3 hsr hbo hSc hSo hVal
      simp only [tints, ofT, ofT1, ofTree]
      simp only [setVals, aput, aeval, List.getD_cons_succ, List.getD_cons_zero, List.set_cons_succ, List.set_cons_zero]
      refine SegRun.vc rfl rfl (fun K hK => ?_)
      simp only [go_sem, iRows_len]
      refine hK _ _ ⟨zQS trivial, ?_⟩
      clear hK K
      refine SegRun.nil' ?_
      simp only [setVals, aput, aeval, List.getD_cons_succ, List.getD_cons_zero, List.set_cons_succ, List.set_cons_zero]
      have hrs := llRows_snoc (oI s1.out) (zI (isortN (s1.opn.drop si.opn.length)))
      have hos : oI s1.out ++ [zI (isortN (s1.opn.drop si.opn.length))] = oI (s1.out ++ [isortN (s1.opn.drop si.opn.length)]) := by simp [oI]
      rw [hos] at hrs
      have hll := llRows_len (oI s1.out)
      rw [oI_len] at hll
      refine ADr.run 2 (by kernel_rfl) (by decide) (fun K hK => ?_)
      simp only [Nat.reduceAdd, List.drop_succ_cons, List.drop_zero, List.take_succ_cons, List.take_zero]
      repeat' (first|((first|(refine zT ?_;intro K' hK')|(refine zG ?_ ?_<;>(try refine zH ?_)<;>intro hguard<;>(try exact zX)<;>try intro K' hK'))<;>((try simp +contextual only [go_sem, llRows_len, oI_len, hrs, chunks, List.range, List.range.loop]);(repeat' first|(with_reducible refine hK' _ _ ?_;clear hK' K')|(with_reducible exact llRows_k' (by assumption))|exact zY|with_reducible refine And.intro ?_ ?_|(with_reducible intro hpath;try exact zP)|(refine hK' _ _ ?_;clear hK' K')|fail);try refine zS ?_))|(refine zE ?_;refine hK _ _ ?_;clear hK K)|(refine zN ?_;try refine zS ?_)|fail)
      try simp only [Nat.reduceAdd]
      refine ADr.done (by decide) (AThen.n ?_)
      repeat' (first|((with_reducible refine AWp.seq (AWp.of_reg (id:=14) (AReg.pre 2 (fun K hK=>?_))));simp only [List.take_succ_cons,List.take_zero])|((with_reducible refine AWp.of_reg (id:=14) (AReg.pre 2 (fun K hK=>?_)));simp only [List.take_succ_cons,List.take_zero])|((first|(refine zT ?_;intro K' hK')|(refine zG ?_ ?_<;>(try refine zH ?_)<;>intro hguard<;>(try exact zX)<;>try intro K' hK'))<;>((try simp +contextual only [go_sem]);(repeat' first|(with_reducible refine hK' _ _ ?_;clear hK' K')|exact zY|with_reducible refine And.intro ?_ ?_|(with_reducible intro hpath;try exact zP)|(refine hK' _ _ ?_;clear hK' K')|fail);try refine zS ?_))|(refine zE ?_;refine hK _ _ ?_;clear hK K)|(refine zN ?_;try refine zS ?_)|refine zA ?_|(refine zB ?_;intro K hK)|(refine zC ?_ ?_<;>(try refine zH ?_)<;>intro hcond<;>try exact zX)|fail)
      refine AReg.stepN rfl rfl (step_cut_vec (j := j2 + 10) (len := s1.opn.length) (cap := cap2) (m := si.opn.length) (kk := .i64) _ _ _ rfl (e := 3) (by kernel_rfl) (by kernel_rfl) rfl rfl (by omega) hx2c).n ?_
      rintro r H' ⟨rfl, rfl⟩
      simp only [aput, aeval, List.set_cons_succ, List.set_cons_zero]
      refine AReg.rest (fun K hK => ?_)
      repeat' ((fail_if_success (with_reducible refine AWp.atSeq 18 ?_));(fail_if_success (with_reducible refine AWp.atLast 18 ?_));first|((first|(refine zT ?_;intro K' hK')|(refine zG ?_ ?_<;>(try refine zH ?_)<;>intro hguard<;>(try exact zX)<;>try intro K' hK'))<;>((try simp +contextual only [go_sem]);(repeat' first|(with_reducible refine hK' _ _ ?_;clear hK' K')|exact zY|with_reducible refine And.intro ?_ ?_|(with_reducible intro hpath;try exact zP)|(refine hK' _ _ ?_;clear hK' K')|fail);try refine zS ?_))|(refine zE ?_;refine hK _ _ ?_;clear hK K)|(refine zN ?_;try refine zS ?_)|refine zA ?_|(refine zB ?_;intro K hK)|(refine zC ?_ ?_<;>(try refine zH ?_)<;>intro hcond<;>try exact zX)|fail)
      have hj2 : j2 < X2.length := (List.getElem?_eq_some_iff.1 hx2v).1
      have hl1 : (s1.opn.take si.opn.length).length = si.opn.length := by rw [List.length_take]; omega
      have hl2 : (s1.out ++ [isortN (s1.opn.drop si.opn.length)]).length = s1.out.length + 1 := by simp
      refine AWp.boxWeak (j2 + 10) (cs := fC s1.opn ++ List.replicate (cap2 - s1.opn.length) .any) (fC (s1.opn.take si.opn.length) ++ List.replicate (cap2 - si.opn.length) .any) (by show (X2 ++ _)[j2]? = _; rw [List.getElem?_append_left hj2]; exact hx2v) (cut_weak (by omega) hx2c) ?_
      simp only [List.set_cons_succ]
      rw [List.set_append_left _ _ hj2]
      refine AWp.cellAny (X2.length + 10) 0 (cs := [.ref (j2 + 10) 1 si.opn.length (s1.opn.length - si.opn.length) (cap2 - si.opn.length)]) (by
       show (X2.set j2 _ ++ _)[X2.length]? = _
       rw [List.getElem?_append_right (by rw [List.length_set]; exact Nat.le_refl _), List.length_set, Nat.sub_self]; rfl) ?_
      simp only [List.set_cons_succ, List.set_cons_zero]
      rw [List.set_append_right _ _ (by rw [List.length_set]; exact Nat.le_refl _), List.length_set, Nat.sub_self]
      simp only [List.set_cons_zero]
      repeat' (first|((first|(refine zT ?_;intro K' hK')|(refine zG ?_ ?_<;>(try refine zH ?_)<;>intro hguard<;>(try exact zX)<;>try intro K' hK'))<;>((try simp +contextual only [go_sem]);(repeat' first|(with_reducible refine hK' _ _ ?_;clear hK' K')|exact zY|with_reducible refine And.intro ?_ ?_|(with_reducible intro hpath;try exact zP)|(refine hK' _ _ ?_;clear hK' K')|fail);try refine zS ?_))|(refine zE ?_;refine hK _ _ ?_;clear hK K)|(refine zN ?_;try refine zS ?_)|refine zA ?_|(refine zB ?_;intro K hK)|(refine zC ?_ ?_<;>(try refine zH ?_)<;>intro hcond<;>try exact zX)|fail)
      refine ⟨(i + 1, j2, cap2, X2.set j2 (.box (fC (s1.opn.take si.opn.length) ++ List.replicate (cap2 - si.opn.length) .any)) ++ [.box [.any]]),?_,?_,?_⟩
      ·simp only [hfold, hl1, hl2]; exact Weak.keepM 113 [0, 1, 3, 4, 6, 7, 8, 9, 26, 27, 28]
      ·exact ⟨hlt, by simp only [hfold]; exact hX2.cut (by omega) rfl⟩
      ·simp only; omega
     ·rw [if_neg hge] at hfold
      have hgeI : ¬ (svm : Int) ≤ (lwm : Int) := by omega
      repeat' (first|((first|(refine zT ?_;intro K' hK')|(refine zG ?_ ?_<;>(try refine zH ?_)<;>intro hguard<;>(try exact zX)<;>try intro K' hK'))<;>((try simp +contextual only [go_sem, hge, hgeI, lv, lw, sv, emin, s1a, s1b, lw2, fC_len, k1, k2, Int.toNat_natCast, Nat.mul_one]);(repeat' first|(with_reducible refine hK' _ _ ?_;clear hK' K')|exact zY|with_reducible refine And.intro ?_ ?_|(with_reducible intro hpath;try exact zP)|(refine hK' _ _ ?_;clear hK' K')|fail);try refine zS ?_))|(refine zE ?_;refine hK _ _ ?_;clear hK K)|(refine zN ?_;try refine zS ?_)|refine zA ?_|(refine zB ?_;intro K hK)|(refine zC ?_ ?_<;>(try refine zH ?_)<;>intro hcond<;>try exact zX)|fail)
      refine ⟨(i + 1, j2, cap2, X2),?_,?_,?_⟩
      ·simp only [hfold]; exact Weak.keepM 113 [0, 1, 3, 4, 6, 7, 8, 9, 26, 27, 28]
      ·exact ⟨hlt, by simp only [hfold]; exact ⟨hX2.vec, hX2.cap, hX2.inn⟩⟩
      ·simp only; omega
   ·rw [if_neg hs0] at hfold
    have hs0I : ¬ ((si.seen.getD w 0 : Nat) : Int) = 0 := by omega
    have svI := fC_get (F := si.seen) (i := v) (by omega)
    have hqt : si.seen.getD w 0 ≤ si.time := getD_le mid.ok.sb
    generalize hqw : si.seen.getD w 0 = qw at *
    generalize hqv : si.seen.getD v 0 = qv at *
    by_cases hlt2 : qw < qv
    ·rw [if_pos hlt2] at hfold
     have hlt2I : (qw : Int) < (qv : Int) := by omega
     simp only [VH]
     repeat' ((fail_if_success (with_reducible refine AWp.atSeq 16 ?_));(fail_if_success (with_reducible refine AWp.atLast 16 ?_));first|((first|(refine zT ?_;intro K' hK')|(refine zG ?_ ?_<;>(try refine zH ?_)<;>intro hguard<;>(try exact zX)<;>try intro K' hK'))<;>((try simp +contextual only [go_sem, hltI, e1, e2, ew, hby, sw, hs0I, svI, hlt2I, hlo, fC_len, hel0, helI, LI_len, zI_len, iRows_len, Int.toNat_natCast, Nat.mul_one]);(repeat' first|(with_reducible refine hK' _ _ ?_;clear hK' K')|exact zY|with_reducible refine And.intro ?_ ?_|(with_reducible intro hpath;try exact zP)|(refine hK' _ _ ?_;clear hK' K')|fail);try refine zS ?_))|(refine zE ?_;refine hK _ _ ?_;clear hK K)|(refine zN ?_;try refine zS ?_)|refine zA ?_|(refine zB ?_;intro K hK)|(refine zC ?_ ?_<;>(try refine zH ?_)<;>intro hcond<;>try exact zX)|fail)
     refine AWp.seqEx (α:=(Nat × Nat × List Blk)) (fun a=>.c (.int .i64 (v : Int)) :: .c (.int .i64 by') :: .c .any :: .c (.ptr 5 0) :: .c (.ptr 6 0) :: .c .any :: .c (.ptr 1 0) :: .c (.ptr 8 0) :: .c (.ptr 9 0) :: .c (.ptr 3 0) :: .c .any :: .c .any :: .c .any :: .c (.int .i64 (e : Int)) :: .c (.int .i64 (w : Int)) :: .c .any :: .c .any :: .c .any :: .c .any :: .c .any :: .c .any :: .c .any :: .c .any :: .c .any :: .c .any :: .c .any :: .c (.slice (iRows (zI (atV L v))) .none) :: .c (.int .i64 ((atV L v).length : Int)) :: .c (.int .i64 (i : Int)) :: .c .any :: .c .any :: .c .any :: .c .any :: .c .any :: .c .any :: .c .any :: .c .any :: .c .any :: .c .any :: .c .any :: .c .any :: .c .any :: .c .any :: .c .any :: .c .any :: .c .any :: .c .any :: .c .any :: .c .any :: .c .any :: .c .any :: .c .any :: .c .any :: .c .any :: .c .any :: .c .any :: .c .any :: .c .any :: .c .any :: .c .any :: .c .any :: .c .any :: .c .any :: .c .any :: .c .any :: .c .any :: .c .any :: .c .any :: .c .any :: .c .any :: .c .any :: .c .any :: .c .any :: .c .any :: .c .any :: .c .any :: .c .any :: .c .any :: .c .any :: .c .any :: .c .any :: .c .any :: .c .any :: .c .any :: .c .any :: .c .any :: .c .any :: .c .any :: .c .any :: .c .any :: .c .any :: .c .any :: .c .any :: .c .any :: .c .any :: .c .any :: .c .any :: .c .any :: .c .any :: .c .any :: .c .any :: .c .any :: .c .any :: .c .any :: .c .any :: .c .any :: .c .any :: .c .any :: .c .any :: .c .any :: .c .any :: .c .any :: .c .any :: []) (fun a=>VH b0 L (pushB e si) a.1 a.2.1 a.2.2) (fun a=>VX (pushB e si) a.1 a.2.1 a.2.2) ?_ (fun a hI=>?_)
     ·
      repeat' (first|((with_reducible refine AWp.seq (AWp.of_reg (id:=16) (AReg.pre 3 (fun K hK=>?_))));simp only [List.take_succ_cons,List.take_zero])|((with_reducible refine AWp.of_reg (id:=16) (AReg.pre 3 (fun K hK=>?_)));simp only [List.take_succ_cons,List.take_zero])|((first|(refine zT ?_;intro K' hK')|(refine zG ?_ ?_<;>(try refine zH ?_)<;>intro hguard<;>(try exact zX)<;>try intro K' hK'))<;>((try simp +contextual only [go_sem]);(repeat' first|(with_reducible refine hK' _ _ ?_;clear hK' K')|exact zY|with_reducible refine And.intro ?_ ?_|(with_reducible intro hpath;try exact zP)|(refine hK' _ _ ?_;clear hK' K')|fail);try refine zS ?_))|(refine zE ?_;refine hK _ _ ?_;clear hK K)|(refine zN ?_;try refine zS ?_)|refine zA ?_|(refine zB ?_;intro K hK)|(refine zC ?_ ?_<;>(try refine zH ?_)<;>intro hcond<;>try exact zX)|fail)
      have hvh := hX.vec
      have hvc := hX.cap
      have hin := hX.inn
      have ecl : (fC si.opn).length = si.opn.length := fC_len _
      have esn : fC si.opn ++ [cellOf (.int .i64 (e : Int))] = fC (si.opn ++ [e]) := by simp [fC, cellOf, ofTree]
      refine AReg.stepN rfl rfl (step_append_vec (j := j + 10) (e := 3) (e2 := 3) (by' := 8) (z := .int .i64 0) (used := fC si.opn) (tr := .int .i64 (e : Int)) (tok := .exact) rfl (by kernel_rfl) (by kernel_rfl) (by kernel_rfl) (by kernel_rfl) rfl (by kernel_rfl) rfl (.inr (by exact hvh)) ecl hvc rfl (by omega) (by omega)) ?_
      have e2z : ((si.opn.length : Nat) + 1) = (si.opn ++ [e]).length := by simp
      rintro r H' (⟨hlc, rfl, rfl⟩ | ⟨cap', hc', rfl, rfl⟩)
      ·
       rw [esn, e2z]
       simp only [aput, aeval, List.set_cons_succ, List.set_cons_zero, List.cons_append, List.length_cons]
       refine AReg.rest (fun K hK => ?_)
       repeat' (first|((first|(refine zT ?_;intro K' hK')|(refine zG ?_ ?_<;>(try refine zH ?_)<;>intro hguard<;>(try exact zX)<;>try intro K' hK'))<;>((try simp +contextual only [go_sem]);(repeat' first|(with_reducible refine hK' _ _ ?_;clear hK' K')|exact zY|with_reducible refine And.intro ?_ ?_|(with_reducible intro hpath;try exact zP)|(refine hK' _ _ ?_;clear hK' K')|fail);try refine zS ?_))|(refine zE ?_;refine hK _ _ ?_;clear hK K)|(refine zN ?_;try refine zS ?_)|refine zA ?_|(refine zB ?_;intro K hK)|(refine zC ?_ ?_<;>(try refine zH ?_)<;>intro hcond<;>try exact zX)|fail)
       refine ⟨(j, cap, X.set j (.box (fC (si.opn ++ [e]) ++ List.replicate (cap - (si.opn.length + 1)) .any))),?_,?_⟩
       ·simp only [VH_push]; exact Weak.keepM 113 [0, 1, 3, 4, 6, 7, 8, 9, 13, 14, 26, 27, 28]
       ·exact hX.push_in hlc
      ·
       rw [esn, e2z]
       simp only [aput, aeval, List.set_cons_succ, List.set_cons_zero, List.cons_append, List.length_cons]
       refine AReg.rest (fun K hK => ?_)
       repeat' (first|((first|(refine zT ?_;intro K' hK')|(refine zG ?_ ?_<;>(try refine zH ?_)<;>intro hguard<;>(try exact zX)<;>try intro K' hK'))<;>((try simp +contextual only [go_sem]);(repeat' first|(with_reducible refine hK' _ _ ?_;clear hK' K')|exact zY|with_reducible refine And.intro ?_ ?_|(with_reducible intro hpath;try exact zP)|(refine hK' _ _ ?_;clear hK' K')|fail);try refine zS ?_))|(refine zE ?_;refine hK _ _ ?_;clear hK K)|(refine zN ?_;try refine zS ?_)|refine zA ?_|(refine zB ?_;intro K hK)|(refine zC ?_ ?_<;>(try refine zH ?_)<;>intro hcond<;>try exact zX)|fail)
       refine ⟨(X.length, cap', X ++ [.box (fC (si.opn ++ [e]) ++ List.replicate (cap' - (si.opn.length + 1)) .any)]),?_,?_⟩
       ·simp only [VH_push]; exact Weak.keepM 113 [0, 1, 3, 4, 6, 7, 8, 9, 13, 14, 26, 27, 28]
       ·exact hX.push_new hc'
     ·obtain ⟨j, cap, X⟩ := a
      simp only at hI ⊢
      have p1 : (pushB e si).low = si.low := rfl
      have p2 : (pushB e si).seen = si.seen := rfl
      have lv := fC_get (F := si.low) (i := v) (by omega)
      have emin : min ((si.low.getD v 0 : Nat) : Int) (qw : Int) = ((min (si.low.getD v 0) qw : Nat) : Int) := by omega
      have hlw : fC (lowB v qw (pushB e si)).low = fC (si.low.set v (min (si.low.getD v 0) qw)) := rfl
      have hlB : (lowB v qw (pushB e si)) = ⟨si.time, si.seen, si.low.set v (min (si.low.getD v 0) qw), (pushB e si).opn, si.out⟩ := rfl
      rw [hlB] at hfold
      generalize hmi : min (si.low.getD v 0) qw = mi at *
      have s1a := fC_set si.low v mi
      have s1b := fC_set2 si.low v mi
      simp only [VH, p1, p2]
      repeat' (first|((first|(refine zT ?_;intro K' hK')|(refine zG ?_ ?_<;>(try refine zH ?_)<;>intro hguard<;>(try exact zX)<;>try intro K' hK'))<;>((try simp +contextual only [go_sem, lv, sw, emin, s1a, s1b, fC_len, hlo, hll, Int.toNat_natCast, Nat.mul_one]);(repeat' first|(with_reducible refine hK' _ _ ?_;clear hK' K')|exact zY|with_reducible refine And.intro ?_ ?_|(with_reducible intro hpath;try exact zP)|(refine hK' _ _ ?_;clear hK' K')|fail);try refine zS ?_))|(refine zE ?_;refine hK _ _ ?_;clear hK K)|(refine zN ?_;try refine zS ?_)|refine zA ?_|(refine zB ?_;intro K hK)|(refine zC ?_ ?_<;>(try refine zH ?_)<;>intro hcond<;>try exact zX)|fail)
      refine ⟨(i + 1, j, cap, X),?_,?_,?_⟩
      ·simp only [hfold]; exact Weak.keepM 113 [0, 1, 3, 4, 6, 7, 8, 9, 26, 27, 28]
      ·exact ⟨hlt, by simp only [hfold]; exact ⟨hI.vec, hI.cap, hI.inn⟩⟩
      ·simp only; omega
    ·rw [if_neg hlt2] at hfold
     have hlt2I : ¬ (qw : Int) < (qv : Int) := by omega
     simp only [VH]
     refine zR (zc @hltI (zc @e1 (zc @e2 (zc @ew (zc @hby (zc @sw (zc @hs0I (zc @svI (zc @hlt2I (zc @hlo (zc @fC_len (zc @hel0 (zc @helI (zc @LI_len (zc @zI_len (zc @iRows_len trivial)))))))))))))))) trivial trivial ?_
     refine ⟨(i + 1, j, cap, X),?_,?_,?_⟩
     ·simp only [hfold]; exact Weak.keepM 113 [0, 1, 3, 4, 6, 7, 8, 9, 26, 27, 28]
     ·exact ⟨hlt, by simp only [hfold]; exact hX⟩
     ·simp only; omega
  ·have hnl : ¬ (i : Int) < ((atV L v).length : Int) := by omega
   have ei : i = (atV L v).length := by omega
   subst ei
   rw [List.take_length] at *
   simp only [VH]
   repeat' (first|((first|(refine zT ?_;intro K' hK')|(refine zG ?_ ?_<;>(try refine zH ?_)<;>intro hguard<;>(try exact zX)<;>try intro K' hK'))<;>((try simp +contextual only [go_sem, hnl]);(repeat' first|(with_reducible refine hK' _ _ ?_;clear hK' K')|exact zY|with_reducible refine And.intro ?_ ?_|(with_reducible intro hpath;try exact zP)|(refine hK' _ _ ?_;clear hK' K')|fail);try refine zS ?_))|(refine zE ?_;refine hK _ _ ?_;clear hK K)|(refine zN ?_;try refine zS ?_)|refine zA ?_|(refine zB ?_;intro K hK)|(refine zC ?_ ?_<;>(try refine zH ?_)<;>intro hcond<;>try exact zX)|fail)
   exact ⟨trivial, .tup [], ⟨rfl, j, cap, X, hX, rfl⟩, rfl⟩
end Go.Proofs.Ytgklecfiflhjmaa
namespace Go.Proofs.Ytgklecfiflhjmaa
open Go.Sp Go.RowKit
open Go.Sort (SWO)
set_option maxHeartbeats 1000000
def cmpLL : List Int → List Int → Int
 | [], [] => 0
 | [], _ :: _ => -1
 | _ :: _, [] => 1
 | x :: a, y :: b => if cmpI x y = 0 then cmpLL a b else cmpI x y
theorem cmpI_zero {x y : Int} : cmpI x y = 0 ↔ x = y := by unfold cmpI; (repeat' split) <;> omega
theorem cmpI_neg {x y : Int} : cmpI x y < 0 ↔ x < y := by unfold cmpI; (repeat' split) <;> omega
theorem cmpLL_drop {a b : List Int} {i : Nat} {x y : Int} (ha : a[i]? = some x) (hb : b[i]? = some y) : cmpLL (a.drop i) (b.drop i) = if cmpI x y = 0 then cmpLL (a.drop (i + 1)) (b.drop (i + 1)) else cmpI x y := by
 obtain ⟨h1, rfl⟩ := List.getElem?_eq_some_iff.1 ha
 obtain ⟨h2, rfl⟩ := List.getElem?_eq_some_iff.1 hb
 rw [List.drop_eq_getElem_cons h1, List.drop_eq_getElem_cons h2]
 rfl
theorem cmpLL_longer {a b : List Int} {i : Nat} {x : Int} (ha : a[i]? = some x) (hb : b.length ≤ i) : cmpLL (a.drop i) (b.drop i) = 1 := by
 obtain ⟨h1, rfl⟩ := List.getElem?_eq_some_iff.1 ha
 rw [List.drop_eq_getElem_cons h1, List.drop_eq_nil_of_le hb]
 rfl
theorem cmpLL_end {a b : List Int} {i : Nat} (ha : a.length = i) (hb : i ≤ b.length) : cmpLL (a.drop i) (b.drop i) = if a.length < b.length then -1 else 0 := by
 rw [List.drop_eq_nil_of_le (by omega)]
 by_cases h : i < b.length
 ·rw [List.drop_eq_getElem_cons h, if_pos (by omega)]; rfl
 ·rw [List.drop_eq_nil_of_le (by omega), if_neg (by omega)]; rfl
theorem CompareL_ok (a b : List Int) (hl : a.length < 2 ^ 40) (hl2 : b.length < 2 ^ 40) : ACall Try.prog 61 [tints a, tints b] (tint (cmpLL a b)) := by
 refine ACall.of_body Try.func61 rfl (by kernel_rfl) ?_
 simp only [entry, Try.ntmps61, tints]
 refine zU ?_
 refine zR (zc @iRows_len trivial) trivial trivial ?_
 refine AWp.loopS (α:=Nat) 36 (fun i=>[(0,.c (.slice (iRows a) .none)),(1,.c (.slice (iRows b) .none)),(9,.c (.slice (iRows a) .none)),(10,.c (.int .i64 (a.length : Int))),(11,.c (.int .i64 (i : Int)))]) (fun i=>[]) (fun i=>i ≤ a.length ∧ i ≤ b.length ∧ cmpLL (a.drop i) (b.drop i) = cmpLL a b) (fun i=>a.length - i) (0) (hk:=Weak.headL 0 36 [0, 1, 9, 10, 11] zW) (h0:=?_) (round:=fun i hI=>?_)
 ·exact ⟨Nat.zero_le _, Nat.zero_le _, rfl⟩
 ·obtain ⟨hi, hi2, he⟩ := hI
  by_cases hlt : i < a.length
  ·have hltI : (i : Int) < (a.length : Int) := by omega
   have hi0 : 0 ≤ (i : Int) := by omega
   have ea := List.getElem?_eq_getElem hlt
   have ra := iRows_get ea
   generalize a[i] = x at *
   by_cases hb : i < b.length
   ·have eb := List.getElem?_eq_getElem hb
    have rb := iRows_get eb
    generalize b[i] = y at *
    have hbI : ¬ (b.length : Int) ≤ (i : Int) := by omega
    have hbI2 : (i : Int) < (b.length : Int) := by omega
    have hc := Compare_ok x y
    have hd := cmpLL_drop ea eb
    by_cases h0 : cmpI x y = 0
    ·rw [if_pos h0] at hd
     rw [h0] at hc
     refine zR (zc @hltI (zc @hi0 (zc @hbI (zc @hbI2 (zc @ra (zc @rb (zc @iRows_len trivial))))))) (zc hc trivial) trivial ?_
     refine ⟨i + 1,Weak.headN 0 36 [0, 1, 9, 10, 11] zW,?_,?_⟩
     ·exact ⟨hlt, hb, by rw [← hd]; exact he⟩
     ·omega
    ·rw [if_neg h0, he] at hd
     rw [hd]
     refine zR (zc @hltI (zc @hi0 (zc @hbI (zc @hbI2 (zc @ra (zc @rb (zc @h0 (zc @iRows_len trivial)))))))) (zc hc trivial) trivial ?_
     simp [Rets, aret, Blk.cells, ty, Try.results61, ares, toT1, toT, borrow, borrow0, capCell, toTree0, tint]
   ·have hbI : (b.length : Int) ≤ (i : Int) := by omega
    have hd := cmpLL_longer ea (by omega : b.length ≤ i)
    rw [he] at hd
    rw [hd]
    refine zR (zc @hltI (zc @hi0 (zc @hbI (zc @ra (zc @iRows_len trivial))))) trivial trivial ?_
    simp [Rets, aret, Blk.cells, ty, Try.results61, ares, toT1, toT, borrow, borrow0, capCell, toTree0, tint]
  ·have hnl : ¬ (i : Int) < (a.length : Int) := by omega
   have ei : i = a.length := by omega
   subst ei
   have hd := cmpLL_end (a := a) (b := b) rfl hi2
   rw [he] at hd
   rw [hd]
   by_cases hab : a.length < b.length
   ·have habI : (a.length : Int) < (b.length : Int) := by omega
    rw [if_pos hab]
    refine zR (zc @hnl (zc @habI (zc @iRows_len trivial))) trivial trivial ?_
    simp [Rets, aret, Blk.cells, ty, Try.results61, ares, toT1, toT, borrow, borrow0, capCell, toTree0, tint]
   ·have habI : ¬ (a.length : Int) < (b.length : Int) := by omega
    rw [if_neg hab]
    refine zR (zc @hnl (zc @habI (zc @iRows_len trivial))) trivial trivial ?_
    simp [Rets, aret, Blk.cells, ty, Try.results61, ares, toT1, toT, borrow, borrow0, capCell, toTree0, tint]
theorem cmpLL_befN : ∀ (a b : List Nat), cmpLL (zI a) (zI b) < 0 ↔ befN a b = true
 | [], [] => by simp [zI, cmpLL, befN]
 | [], _ :: _ => by simp [zI, cmpLL, befN]
 | _ :: _, [] => by simp [zI, cmpLL, befN]
 | x :: a, y :: b => by
  have ih := cmpLL_befN a b
  have h1 := cmpI_zero (x := (x : Int)) (y := y)
  have h2 := cmpI_neg (x := (x : Int)) (y := y)
  show (if cmpI (x : Int) y = 0 then cmpLL (zI a) (zI b) else cmpI (x : Int) y) < 0 ↔ (decide (x < y) || (decide (x = y) && befN a b)) = true
  split
  ·rename_i h0
   have e : x = y := by have := h1.1 h0; omega
   rw [ih]; simp [e]
  ·rename_i h0
   have e : ¬ x = y := fun e => h0 (h1.2 (by omega))
   rw [h2]; simp [e]
theorem befN_irrefl : ∀ a, befN a a = false
 | [] => rfl
 | x :: a => by unfold befN; simp [befN_irrefl a]
theorem befN_trans : ∀ a b c, befN a b = true → befN b c = true → befN a c = true
 | [], [], _, h, _ => by simp [befN] at h
 | [], _ :: _, [], _, h => by simp [befN] at h
 | [], _ :: _, _ :: _, _, _ => rfl
 | _ :: _, [], _, h, _ => by simp [befN] at h
 | _ :: _, _ :: _, [], _, h => by simp [befN] at h
 | x :: a, y :: b, z :: c, h, h' => by
  have ih := befN_trans a b c
  simp only [befN, Bool.or_eq_true, Bool.and_eq_true, decide_eq_true_eq] at h h' ⊢
  rcases h with h | ⟨h1, h2⟩ <;> rcases h' with h' | ⟨h3, h4⟩
  ·left; omega
  ·left; omega
  ·left; omega
  ·right; exact ⟨by omega, ih h2 h4⟩
theorem befN_total : ∀ a b, befN a b = false → befN b a = false → a = b
 | [], [], _, _ => rfl
 | [], _ :: _, h, _ => by simp [befN] at h
 | _ :: _, [], _, h => by simp [befN] at h
 | x :: a, y :: b, h, h' => by
  simp only [befN, Bool.or_eq_false_iff, Bool.and_eq_false_iff, decide_eq_false_iff_not] at h h'
  have e : x = y := by omega
  subst e
  have := befN_total a b (by rcases h.2 with q | q; exact absurd rfl q; exact q) (by rcases h'.2 with q | q; exact absurd rfl q; exact q)
  rw [this]
theorem befN_ntrans (a b c : List Nat) (h : befN a b = false) (h' : befN b c = false) : befN a c = false := by
 rw [← Bool.not_eq_true]; intro hac
 cases hba : befN b a with
 | true => rw [befN_trans b a c hba hac] at h'; cases h'
 | false =>
  have := befN_total a b h hba
  subst this
  rw [hac] at h'; cases h'
def cfNL (a b : List Nat) : Int := cmpLL (zI a) (zI b)
theorem ltOf_cfNL (a b : List Nat) : Go.Proofs.ltOf cfNL a b = befN a b := by
 unfold Go.Proofs.ltOf cfNL
 cases h : befN a b with
 | true => rw [decide_eq_true_eq]; exact (cmpLL_befN a b).2 h
 | false => rw [decide_eq_false_iff_not, cmpLL_befN, h]; simp
theorem swoNL : SWO (Go.Proofs.ltOf cfNL) where
 irrefl x := by rw [ltOf_cfNL]; exact befN_irrefl x
 trans x y z := by rw [ltOf_cfNL, ltOf_cfNL, ltOf_cfNL]; exact befN_trans x y z
 ntrans x y z := by rw [ltOf_cfNL, ltOf_cfNL, ltOf_cfNL]; exact befN_ntrans x y z
theorem insL_perm (x : List Nat) : ∀ l, (insL x l).Perm (x :: l)
 | [] => List.Perm.refl _
 | y :: l => by
  unfold insL; split
  ·exact ((insL_perm x l).cons y).trans (List.Perm.swap ..)
  ·exact List.Perm.refl _
theorem isortL_perm : ∀ l, (isortL l).Perm l
 | [] => List.Perm.refl _
 | x :: l => by unfold isortL; exact (insL_perm x _).trans ((isortL_perm l).cons x)
theorem insL_sorted {x : List Nat} : ∀ {l : List (List Nat)}, l.Pairwise (fun a b => befN b a = false) → (insL x l).Pairwise (fun a b => befN b a = false)
 | [], _ => by simp [insL]
 | y :: l, h => by
  unfold insL
  rw [List.pairwise_cons] at h
  split
  ·rename_i hx
   rw [List.pairwise_cons]
   refine ⟨fun z hz => ?_, insL_sorted h.2⟩
   have := (insL_perm x l).mem_iff.1 hz
   rcases List.mem_cons.1 this with rfl | hz
   ·rw [← Bool.not_eq_true]; intro q
    have := befN_trans _ _ _ q hx
    rw [befN_irrefl] at this; cases this
   ·exact h.1 z hz
  ·rename_i hx
   rw [Bool.not_eq_true] at hx
   rw [List.pairwise_cons]
   refine ⟨fun z hz => ?_, List.pairwise_cons.2 h⟩
   rcases List.mem_cons.1 hz with rfl | hz
   ·exact hx
   ·exact befN_ntrans _ _ _ (h.1 z hz) hx
theorem isortL_sorted : ∀ l, (isortL l).Pairwise (fun a b => befN b a = false)
 | [] => List.Pairwise.nil
 | x :: l => by unfold isortL; exact insL_sorted (isortL_sorted l)
def cfIx (l : List (List Nat)) (i j : Fin l.length) : Int := cfNL l[i] l[j]
theorem swoIx (l : List (List Nat)) : SWO (Go.Proofs.ltOf (cfIx l)) where
 irrefl x := swoNL.irrefl _
 trans x y z := swoNL.trans _ _ _
 ntrans x y z := swoNL.ntrans _ _ _
theorem finR_map (l : List (List Nat)) : (List.finRange l.length).map (fun i => l[i]) = l := by
 apply List.ext_getElem
 ·simp
 ·intro i p q; simp
theorem sortIx_eq (l : List (List Nat)) : (sortIx (cfIx l) (List.finRange l.length)).map (fun i => l[i]) = isortL l := by
 obtain ⟨h1, h2⟩ := sortIx_spec (swoIx l) (List.finRange l.length)
 have h3 := h1.map fun i => l[i]
 rw [finR_map] at h3
 refine List.Perm.eq_of_pairwise (le := fun a b => befN b a = false) (fun a b _ _ q1 q2 => befN_total a b q2 q1) ?_ (isortL_sorted l) (h3.trans (isortL_perm l).symm)
 rw [List.pairwise_map, List.pairwise_iff_getElem]
 intro i j hi hj hij
 have := h2 i j _ _ hij (List.getElem?_eq_getElem hi) (List.getElem?_eq_getElem hj)
 have e : Go.Proofs.ltOf (cfIx l) = fun i j => Go.Proofs.ltOf cfNL l[i] l[j] := rfl
 rw [e] at this
 simp only at this
 rwa [ltOf_cfNL] at this
theorem enterSS : ∀ args w, (callFunc 78 args).run Try.prog w = .ok (.enter 78 args) w := Go.Proofs.enters_of Try.func78 (by kernel_rfl) rfl
theorem SortS_none {H : List Blk} {v : AVal} {tok : Tok} : ACallH Try.prog 78 H [.c (.slice [] tok), v] H (.tup []) := SortFuncS_none laySortL enterSS
theorem SortS_ok (l : List (List Nat)) (hpos : 0 < l.length) (hl : l.length < 2 ^ 40) (hB : ∀ B, B ∈ l → B.length < 2 ^ 40) {H : List Blk} {id cap : Nat} (hid : H[id]? = some (.box (l.map fun x => .slice (iRows (zI x)) .none))) :
  ACallH Try.prog 78 H [.c (.ref id 1 0 l.length cap), .c (.fn 61 [])] (H.set id (.box ((isortL l).map fun x => .slice (iRows (zI x)) .none))) (.tup []) := by
 have hb : ∀ i : Fin l.length, (zI l[i]).length < 2 ^ 40 := fun i => by rw [zI_len]; exact hB _ (List.getElem_mem i.isLt)
 have h := SortFuncS_call laySortL (fun i : Fin l.length => iRows (zI l[i])) (cfIx l) (swoIx l) 61 (fun x y => CompareL_ok (zI l[x]) (zI l[y]) (hb x) (hb y)) enterSS (List.finRange l.length) (by simpa using hpos) (by simp; omega) (H := H) (id' := id) (cap := cap) (by
  rw [hid]; congr 2
  conv => lhs; rw [← finR_map l]
  rw [List.map_map]; rfl)
 have e : (sortIx (cfIx l) (List.finRange l.length)).map (fun i => ACell.slice (iRows (zI l[i])) .none) = (isortL l).map fun x => .slice (iRows (zI x)) .none := by
  rw [← sortIx_eq, List.map_map]; rfl
 rw [List.length_finRange] at h
 rw [← e]
 exact h
end Go.Proofs.Ytgklecfiflhjmaa
namespace Go.Proofs.Ytgklecfiflhjmaa
open Go.Sp
end Go.Proofs.Ytgklecfiflhjmaa
