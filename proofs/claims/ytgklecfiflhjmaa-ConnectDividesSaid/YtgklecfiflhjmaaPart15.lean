/- A part of the proof. -/
import Derived.Test.YtgklecfiflhjmaaPart14
import Derived.Test.YtgklecfiflhjmaaPart05
import Derived.Test.YtgklecfiflhjmaaLayerB
import Derived.Test.YtgklecfiflhjmaaLayerC
set_option linter.all false
set_option maxHeartbeats 4000000
set_option maxRecDepth 100000
namespace Go.Proofs.Ytgklecfiflhjmaa
open Go.Sp
theorem mapInt : tMap Try.prog 100 = some (3, 3) := by simp only [ty]
theorem zeroI : tZero Try.prog 3 = some (.int .i64 0) := by simp only [ty]
theorem partsV_len (F : List Nat) (v : Nat) : (partsV F v).length = (rootsL F v).length := by simp [partsV]
theorem chI_in' {m b : Nat} {ls : List (List Int)} {n : Nat} (h : b + ls.length ≤ m) : blkIn m (.box (chI b ls ++ List.replicate n .any)) := chC_in' (by simpa using h)
theorem chI_put (b i : Nat) (ls : List (List Int)) (l : List Int) (R : List ACell) (h : i < ls.length) : (chI b ls ++ R).set i (.slice (iRows l) (.chain (i + b))) = chI b (ls.set i l) ++ R := by
 rw [List.set_append_left _ _ (by rw [chI_len]; exact h), chI_set]
theorem chI_at {b i : Nat} {ls : List (List Int)} {l : List Int} (R : List ACell) (h : ls[i]? = some l) : (chI b ls ++ R).drop i = .slice (iRows l) (.chain (i + b)) :: (chI b ls ++ R).drop (i + 1) := by
 have hl := (List.getElem?_eq_some_iff.1 h).1
 rw [List.drop_append_of_le_length (by rw [chI_len]; omega), List.drop_append_of_le_length (by rw [chI_len]; omega), chI_drop h]; rfl
theorem chI_new (b : Nat) (ls : List (List Int)) (l : List Int) (R : List ACell) : (chI b ls ++ [ACell.nils] ++ R).set ls.length (.slice (iRows l) (.chain (ls.length + b))) = chI b (ls ++ [l]) ++ R := by
 rw [List.append_assoc, List.set_append_right _ _ (by rw [chI_len]; exact Nat.le_refl _), chI_len, Nat.sub_self]
 unfold chI
 rw [List.map_append, List.map_cons, List.map_nil, chC_snoc]
 simp
theorem chI_newAt (b : Nat) (ls : List (List Int)) (R : List ACell) : (chI b ls ++ [ACell.nils] ++ R).drop ls.length = .nils :: R := by
 rw [List.append_assoc, List.drop_append, chI_len, Nat.sub_self, List.drop_eq_nil_of_le (by rw [chI_len]; exact Nat.le_refl _)]; rfl
theorem chI_newGet (b : Nat) (ls : List (List Int)) (R : List ACell) : (chI b ls ++ [ACell.nils] ++ R)[ls.length]? = some .nils := by
 have := congrArg (·[0]?) (chI_newAt b ls R)
 simpa using this
theorem chI_get' {b i : Nat} {ls : List (List Int)} {l : List Int} (R : List ACell) (h : ls[i]? = some l) : (chI b ls ++ R)[i]? = some (.slice (iRows l) (.chain (i + b))) := by
 have hl := (List.getElem?_eq_some_iff.1 h).1
 rw [List.getElem?_append_left (by rw [chI_len]; exact hl)]
 exact chI_get h
theorem chJ_snoc (ls : List (List Int)) (l : List Int) : chJ (ls ++ [l]) = chJ ls ++ [.chain l.length 1] := by
 unfold chJ; rw [List.map_append, List.map_cons, List.map_nil, chB_snoc, iRows_len]
theorem chI_no {j b : Nat} {ls : List (List Int)} : ∀ c, c ∈ chI b ls → noJ j c = true := chC_no
@[simp] theorem chJ_parts (F : List Nat) (v : Nat) : (chJ (partsV F v)).take (rootsL F v).length = chJ (partsV F v) := chJ_take (by rw [partsV_len]; exact Nat.le_refl _)
theorem noB_parts {cs0 : List ACell} {F : List Nat} (h0 : ∀ c, c ∈ cs0 → noJ 3 c = true) {es : List (MKey × MV)} {b : Blk} {ps : List (List Int)} : ∀ (i : Nat) blk, (Blk.box cs0 :: .box (fC F) :: .map es :: b :: chJ ps)[i]? = some blk → i ≠ 3 → noB 3 blk
 | 0, blk, h, _ => by simp at h; subst h; exact h0
 | 1, blk, h, _ => by
  simp at h; subst h
  intro c hc
  obtain ⟨n, _, rfl⟩ := List.mem_map.1 hc
  rfl
 | 2, blk, h, _ => by simp at h; subst h; trivial
 | 3, blk, h, hn => absurd rfl hn
 | i + 4, blk, h, _ => by
  have hm := List.mem_of_getElem? (l := chJ ps) (i := i) (a := blk) (by simpa using h)
  obtain ⟨r, _, rfl⟩ := List.mem_map.1 hm
  trivial
theorem cparts_ok (F : List Nat) (hF : FOk F) (n : Nat) (h1 : 1 ≤ n) (hn : n ≤ 12) (cs0 : List ACell) (hcs : ∀ m, 2 ≤ m → blkIn m (.box cs0)) (hno : ∀ c, c ∈ cs0 → noJ 3 c = true) :
  ACallH Try.prog 59 [.box cs0, .box (fC F)] [.c (.ptr 1 0), .c (.int .i64 (n : Int))] [.box cs0, .box (fC F)] (.c (.slice (llRows (partsV F n)) .none)) := by
 have hroot := fun (v : Nat) (hv : v < 12) (H : List Blk) (hH : H[1]? = some (.box (fC F))) => croot_call F hF v hv (id := 1) hH
 refine ACallH.of_body Try.func59 rfl (by kernel_rfl) ?_
 simp only [entry, Try.ntmps59, List.length_cons, List.length_nil, Nat.reduceAdd, Nat.reduceSub, List.replicate_succ, List.replicate_zero, List.cons_append, List.nil_append]
 repeat' (first|((first|(refine zT ?_;intro K' hK')|(refine zG ?_ ?_<;>(try refine zH ?_)<;>intro hguard<;>(try exact zX)<;>try intro K' hK'))<;>((try simp +contextual only [go_sem]);(repeat' first|(with_reducible refine hK' _ _ ?_;clear hK' K')|exact zY|with_reducible refine And.intro ?_ ?_|(with_reducible intro hpath;try exact zP)|(refine hK' _ _ ?_;clear hK' K')|fail);try refine zS ?_))|(refine zE ?_;refine hK _ _ ?_;clear hK K)|(refine zN ?_;try refine zS ?_)|refine zA ?_|(refine zB ?_;intro K hK)|(refine zC ?_ ?_<;>(try refine zH ?_)<;>intro hcond<;>try exact zX)|fail)
 refine AWp.weak (Weak.asVec 5 1 rfl rfl (by simp)) ?_
 simp only [List.length_cons, List.length_nil, List.set_cons_succ, List.set_cons_zero, List.cons_append, List.nil_append, Nat.zero_add]
 refine AWp.loopS (α:=(Nat × Nat)) 43 (fun s=>[(0,.c (.ptr 1 0)),(5,.c (.vec 3 (rootsL F s.1).length s.2)),(6,.c (.map 2)),(10,.c (.int .i64 (n : Int))),(11,.c (.int .i64 (s.1 : Int)))]) (fun s=>.box cs0 :: .box (fC F) :: .map (mR 0 (rootsL F s.1)) :: .box (chI 4 (partsV F s.1) ++ List.replicate (s.2 - (rootsL F s.1).length) .any) :: chJ (partsV F s.1)) (fun s=>s.1 ≤ n ∧ (rootsL F s.1).length ≤ s.2) (fun s=>n - s.1) ((0, 0)) (hk:=Weak.headL ((rootsL F ((0, 0)).1).length + 4) 43 [0, 5, 6, 10, 11] (by (repeat' (first | exact valsIn_nil _ | exact blksIn_nil _ | exact cellsIn_nil _ | refine And.intro ?_ ?_ | refine valsIn_cons ?_ ?_ | refine blksIn_cons ?_ ?_ | refine cellsIn_cons ?_ ?_ | exact True.intro | exact chI_in' (by rw [partsV_len]; omega) | exact chJ_in | exact hcs _ (by omega) | exact fC_in | (show _ < _; omega) | exact cellsIn_map (fun _ => True.intro) | (intro c hc; cases hc; done) | (intro c hc; simp only [List.mem_cons, List.not_mem_nil, or_false] at hc; subst hc; exact True.intro) | (intro c hc; simp only [List.mem_cons, List.not_mem_nil, or_false] at hc; rcases hc with rfl | rfl <;> exact True.intro))))) (h0:=?_) (round:=fun s hI=>?_)
 ·exact ⟨Nat.zero_le _, Nat.le_refl _⟩
 ·obtain ⟨v, cap⟩ := s
  obtain ⟨hv, hcap⟩ := hI
  simp only at hv hcap ⊢
  by_cases hlt : v < n
  ·have hltI : (v : Int) < n := by omega
   have hR := hroot v (by omega) _ (show (Blk.box cs0 :: .box (fC F) :: .map (mR 0 (rootsL F v)) :: .box (chI 4 (partsV F v) ++ List.replicate (cap - (rootsL F v).length) .any) :: chJ (partsV F v))[1]? = some (.box (fC F)) from rfl)
   have hle := rootF_le hF (n := 12) (v := v) (by omega)
   have hkl := rootsL_len F v
   have hpl := partsV_len F v
   by_cases hrv : rootF F 12 v = v
   ·rw [hrv] at hR
    have hnew := parts_new hF (by omega) hrv
    have hsucc := rootsL_succ F v
    rw [if_pos hrv] at hsucc
    have hnm : ¬ v ∈ rootsL F v := fun h => by have := (rootsL_mem.1 h).1; omega
    have hput := mR_put hnm
    have hnd := rootsL_nodup F (v + 1)
    rw [hsucc] at hnd
    have hval := mR_val (k := (rootsL F v).length) (r := v) hnd (by simp) (.c (.int .i64 0))
    generalize rootsL F v = rs at *
    generalize partsV F v = ps at *
    repeat' (first|((with_reducible refine AWp.seq (AWp.of_reg (id:=9) (AReg.pre 1 (fun K hK=>?_))));simp only [List.take_succ_cons,List.take_zero])|((with_reducible refine AWp.of_reg (id:=9) (AReg.pre 1 (fun K hK=>?_)));simp only [List.take_succ_cons,List.take_zero])|((first|(refine zT ?_;intro K' hK')|(refine zG ?_ ?_<;>(try refine zH ?_)<;>intro hguard<;>(try exact zX)<;>try intro K' hK'))<;>((try simp +contextual only [go_sem, hltI, hput, toKey]);(repeat' first|(with_reducible refine hK' _ _ ?_;clear hK' K')|((with_reducible first|refine ⟨_,_,hR,?_⟩|refine ⟨_,hR,?_⟩);try simp +contextual only [go_sem, hltI, hput, toKey])|(refine ⟨_, klInt, rfl, klInts_ok, ?_⟩ ; simp +contextual only [go_sem, hltI, hput, toKey])|exact zY|with_reducible refine And.intro ?_ ?_|(with_reducible intro hpath;try exact zP)|(refine hK' _ _ ?_;clear hK' K')|fail);try refine zS ?_))|(refine zE ?_;refine hK _ _ ?_;clear hK K)|(refine zN ?_;try refine zS ?_)|refine zA ?_|(refine zB ?_;intro K hK)|(refine zC ?_ ?_<;>(try refine zH ?_)<;>intro hcond<;>try exact zX)|fail)
    simp only [List.drop_succ_cons, List.drop_zero]
    refine AReg.nilRow (e := 27) (z := .slice none 0 0) rfl rfl rfl (by simp only [ty]) (by simp only [ty]) (by simp only [ty]) rfl ?_
    refine AReg.grow (e := 27) (e2 := 27) (by' := 24) (z := .slice none 0 0) (j := 3) (tr := .raw (.slice none 0 0)) (tok := .exact) (used := chI 4 ps) rfl rfl rfl (by simp only [ty]) (by simp only [ty]) (by simp only [ty]) (by simp only [ty]) rfl (by simp only [ty]) rfl rfl (by rw [chI_len, hpl]) hcap (by simp) rfl (by omega) (by omega) (noB_parts hno) chI_no (fun cap' hc' => ?_)
    refine AReg.rest (fun K hK => ?_)
    simp only [List.map_cons, List.map_nil, fgt, fgtC, noJ, noK, aput, List.set_cons_succ, List.set_cons_zero, cellOf, bne_self_eq_false, show ((1 : Nat) != 3) = true from rfl, show ((2 : Nat) != 3) = true from rfl, if_true, Bool.false_eq_true, if_false]
    have w1 := chI_newAt 4 ps (List.replicate (cap' - (rs.length + 1)) .any)
    have w2 := chI_new 4 ps [(v : Int)] (List.replicate (cap' - (rs.length + 1)) .any)
    have w4 := chI_newGet 4 ps (List.replicate (cap' - (rs.length + 1)) .any)
    rw [hpl] at w1 w2 w4
    have w3 := chJ_snoc ps [(v : Int)]
    repeat' (first|(with_reducible refine AWp.seq_drawM mapInt klInt zeroI (by with_unfolding_all rfl) (by with_unfolding_all kernel_rfl) (fun K hK=>?_))|(with_reducible refine AWp.last_drawM mapInt klInt zeroI (by with_unfolding_all rfl) (by with_unfolding_all kernel_rfl) (fun K hK=>?_))|((first|(refine zT ?_;intro K' hK')|(refine zG ?_ ?_<;>(try refine zH ?_)<;>intro hguard<;>(try exact zX)<;>try intro K' hK'))<;>((try simp +contextual only [go_sem, hval, w1, w2, w4, chunks, List.range, List.range.loop, toKey, Int.toNat_natCast]);(repeat' first|(with_reducible refine hK' _ _ ?_;clear hK' K')|(exact rfl)|(exact klInts_ok)|(with_reducible exact iRows_k' (by assumption))|exact zY|with_reducible refine And.intro ?_ ?_|(with_reducible intro hpath;try exact zP)|(refine hK' _ _ ?_;clear hK' K')|fail);try refine zS ?_))|(refine zE ?_;refine hK _ _ ?_;clear hK K)|(refine zN ?_;try refine zS ?_)|refine zA ?_|(refine zB ?_;intro K hK)|(refine zC ?_ ?_<;>(try refine zH ?_)<;>intro hcond<;>try exact zX)|fail)
    ·rw [chI_len, hpl, List.length_replicate]; omega
    ·have hl : (rootsL F (v + 1)).length = rs.length + 1 := by rw [hsucc]; simp
     simp only [iRows, List.map_cons, List.map_nil] at w2
     rw [chJ_len, hpl, w2, ← hnew, ← hsucc, show chJ ps ++ [Blk.chain 1 1] = chJ (partsV F (v + 1)) from by rw [hnew, w3]; rfl]
     have ht2 : (chJ (partsV F (v + 1))).take (rs.length + 1) = chJ (partsV F (v + 1)) := chJ_take (by rw [partsV_len, hl]; exact Nat.le_refl _)
     refine ⟨(v + 1, cap'),Weak.headF ((rootsL F ((v + 1, cap')).1).length + 4) 43 [0, 5, 6, 10, 11] (zc @hl (zc @ht2 trivial)) (by (repeat' (first | exact valsIn_nil _ | exact blksIn_nil _ | exact cellsIn_nil _ | refine And.intro ?_ ?_ | refine valsIn_cons ?_ ?_ | refine blksIn_cons ?_ ?_ | refine cellsIn_cons ?_ ?_ | exact True.intro | exact chI_in' (by rw [partsV_len]; omega) | exact chJ_in | exact hcs _ (by omega) | exact fC_in | (show _ < _; omega) | exact cellsIn_map (fun _ => True.intro) | (intro c hc; cases hc; done) | (intro c hc; simp only [List.mem_cons, List.not_mem_nil, or_false] at hc; subst hc; exact True.intro) | (intro c hc; simp only [List.mem_cons, List.not_mem_nil, or_false] at hc; rcases hc with rfl | rfl <;> exact True.intro)))),?_,?_⟩
     ·exact ⟨hlt, by rw [hl]; exact hc'⟩
     ·simp only; omega
   ·obtain ⟨r, hr⟩ : ∃ r, rootF F 12 v = r := ⟨_, rfl⟩
    have hrlt : r < v := by omega
    have hfix := root_fix hF (u := v) (by omega)
    rw [hr] at hfix
    have hrr := root_self hF (u := r) (by omega) hfix
    have hmem : r ∈ rootsL F v := rootsL_mem.2 ⟨hrlt, hrr⟩
    obtain ⟨k, hk, hkr⟩ := List.mem_iff_getElem.1 hmem
    have hk' : (rootsL F v)[k]? = some r := by rw [List.getElem?_eq_getElem hk, hkr]
    obtain ⟨e1, e2, e3⟩ := parts_old hrv hk' hr
    have hval := mR_val (rootsL_nodup F v) hk' (.c (.int .i64 0))
    rw [hr] at hR hrv
    have hrvI : ¬ ((r : Int) = v) := by omega
    have hplen : (partV F v r).length ≤ v := by
     unfold partV
     rw [List.length_map]
     exact Nat.le_trans (List.length_filter_le _ _) (by simp)
    generalize partV F v r = p at *
    have hkI : (k : Int) < (rootsL F v).length := by omega
    have g1 := chI_get' (b := 4) (List.replicate (cap - (rootsL F v).length) .any) e2
    have g2 := chI_at (b := 4) (List.replicate (cap - (rootsL F v).length) .any) e2
    have g3 := chJ_get e2
    have g4 := chI_put 4 k (partsV F v) (p ++ [(v : Int)]) (List.replicate (cap - (rootsL F v).length) .any) (by omega)
    have g5 := chJ_set k (partsV F v) (p ++ [(v : Int)]) (n := p.length + 1) (by simp)
    rw [← e3] at g4 g5
    have hkc : k + 1 ≤ (partsV F v).length + (cap - (rootsL F v).length) := by omega
    repeat' (first|(with_reducible refine AWp.seq_drawM mapInt klInt zeroI (by with_unfolding_all rfl) (by with_unfolding_all kernel_rfl) (fun K hK=>?_))|(with_reducible refine AWp.last_drawM mapInt klInt zeroI (by with_unfolding_all rfl) (by with_unfolding_all kernel_rfl) (fun K hK=>?_))|((first|(refine zT ?_;intro K' hK')|(refine zG ?_ ?_<;>(try refine zH ?_)<;>intro hguard<;>(try exact zX)<;>try intro K' hK'))<;>((try simp +contextual only [go_sem, hltI, hrvI, hkI, hval, g1, g2, g3, g4, g5, chI_len, chJ_len, hpl, hkc, iRows_len, iRows_snoc, chunks, List.range, List.range.loop, toKey, Int.toNat_natCast, List.length_replicate]);(repeat' first|(with_reducible refine hK' _ _ ?_;clear hK' K')|((with_reducible first|refine ⟨_,_,hR,?_⟩|refine ⟨_,hR,?_⟩);try simp +contextual only [go_sem, hltI, hrvI, hkI, hval, g1, g2, g3, g4, g5, chI_len, chJ_len, hpl, hkc, iRows_len, iRows_snoc, chunks, List.range, List.range.loop, toKey, Int.toNat_natCast, List.length_replicate])|(exact rfl)|(exact klInts_ok)|(with_reducible exact iRows_k' (by assumption))|exact zY|with_reducible refine And.intro ?_ ?_|(with_reducible intro hpath;try exact zP)|(refine hK' _ _ ?_;clear hK' K')|fail);try refine zS ?_))|(refine zE ?_;refine hK _ _ ?_;clear hK K)|(refine zN ?_;try refine zS ?_)|refine zA ?_|(refine zB ?_;intro K hK)|(refine zC ?_ ?_<;>(try refine zH ?_)<;>intro hcond<;>try exact zX)|fail)
    have ht2 : (chJ (partsV F (v + 1))).take (rootsL F v).length = chJ (partsV F (v + 1)) := chJ_take (by rw [partsV_len, e1]; exact Nat.le_refl _)
    refine ⟨(v + 1, cap),Weak.headF ((rootsL F ((v + 1, cap)).1).length + 4) 43 [0, 5, 6, 10, 11] (zc @e1 (zc @ht2 trivial)) (by (repeat' (first | exact valsIn_nil _ | exact blksIn_nil _ | exact cellsIn_nil _ | refine And.intro ?_ ?_ | refine valsIn_cons ?_ ?_ | refine blksIn_cons ?_ ?_ | refine cellsIn_cons ?_ ?_ | exact True.intro | exact chI_in' (by rw [partsV_len]; omega) | exact chJ_in | exact hcs _ (by omega) | exact fC_in | (show _ < _; omega) | exact cellsIn_map (fun _ => True.intro) | (intro c hc; cases hc; done) | (intro c hc; simp only [List.mem_cons, List.not_mem_nil, or_false] at hc; subst hc; exact True.intro) | (intro c hc; simp only [List.mem_cons, List.not_mem_nil, or_false] at hc; rcases hc with rfl | rfl <;> exact True.intro)))),?_,?_⟩
    ·exact ⟨hlt, by rw [e1]; exact hcap⟩
    ·simp only; omega
  ·have ev : v = n := by omega
   subst ev
   have hnl : ¬ ((v : Int) < v) := by omega
   have hpos : 0 < (rootsL F v).length := List.length_pos_iff.2 fun h => by
    have h0 : 0 ∈ rootsL F v := rootsL_mem.2 ⟨by omega, by have := rootF_le hF (n := 12) (v := 0) (by omega); omega⟩
    rw [h] at h0; cases h0
   repeat' ((fail_if_success (with_reducible refine AWp.atSeq 12 ?_));(fail_if_success (with_reducible refine AWp.atLast 12 ?_));first|((first|(refine zT ?_;intro K' hK')|(refine zG ?_ ?_<;>(try refine zH ?_)<;>intro hguard<;>(try exact zX)<;>try intro K' hK'))<;>((try simp +contextual only [go_sem, hnl]);(repeat' first|(with_reducible refine hK' _ _ ?_;clear hK' K')|exact zY|with_reducible refine And.intro ?_ ?_|(with_reducible intro hpath;try exact zP)|(refine hK' _ _ ?_;clear hK' K')|fail);try refine zS ?_))|(refine zE ?_;refine hK _ _ ?_;clear hK K)|(refine zN ?_;try refine zS ?_)|refine zA ?_|(refine zB ?_;intro K hK)|(refine zC ?_ ?_<;>(try refine zH ?_)<;>intro hcond<;>try exact zX)|fail)
   refine AWp.vecData 5 3 4 ((partsV F v).map iRows) rfl rfl hpos hcap (by rw [List.length_map, partsV_len]) (by simp) ?_
   rw [chRows]
   simp only [List.set_cons_succ, List.set_cons_zero]
   refine AWp.weak (Weak.head2 (m := 2) (by first | omega | simp) ((fun t f => [f, f, f, f, f, t, f, f, f, f, f, f, f, f, f, f, f, f, f, f, f, f, f, f, f, f, f, f, f, f, f, f, f, f, f, f, f, f, f, f, f, f, f]) true false) rfl rfl (by (repeat' (first | exact valsIn_nil _ | exact blksIn_nil _ | exact cellsIn_nil _ | refine And.intro ?_ ?_ | refine valsIn_cons ?_ ?_ | refine blksIn_cons ?_ ?_ | refine cellsIn_cons ?_ ?_ | exact True.intro | exact chI_in' (by rw [partsV_len]; omega) | exact chJ_in | exact hcs _ (by omega) | exact fC_in | (show _ < _; omega) | exact cellsIn_map (fun _ => True.intro) | (intro c hc; cases hc; done) | (intro c hc; simp only [List.mem_cons, List.not_mem_nil, or_false] at hc; subst hc; exact True.intro) | (intro c hc; simp only [List.mem_cons, List.not_mem_nil, or_false] at hc; rcases hc with rfl | rfl <;> exact True.intro))))) ?_
   simp only [mask, List.take_succ_cons, List.take_zero, List.set_cons_succ, List.set_cons_zero]
   repeat' (first|((first|(refine zT ?_;intro K' hK')|(refine zG ?_ ?_<;>(try refine zH ?_)<;>intro hguard<;>(try exact zX)<;>try intro K' hK'))<;>((try simp +contextual only [go_sem]);(repeat' first|(with_reducible refine hK' _ _ ?_;clear hK' K')|exact zY|with_reducible refine And.intro ?_ ?_|(with_reducible intro hpath;try exact zP)|(refine hK' _ _ ?_;clear hK' K')|fail);try refine zS ?_))|(refine zE ?_;refine hK _ _ ?_;clear hK K)|(refine zN ?_;try refine zS ?_)|refine zA ?_|(refine zB ?_;intro K hK)|(refine zC ?_ ?_<;>(try refine zH ?_)<;>intro hcond<;>try exact zX)|fail)
   simp [RetsH, aretH, ares, noTup, Try.results59]
end Go.Proofs.Ytgklecfiflhjmaa
