/- A part of the proof. -/
import Derived.Test.YtdhfgihnoimoaaaLayerC
import Derived.Test.YtdhfgihnoimoaaaPart15
import Derived.Test.YtdhfgihnoimoaaaPart05
import Derived.Test.YtdhfgihnoimoaaaLayerB
import Derived.Test.YtdhfgihnoimoaaaPart02
import Derived.Test.YtdhfgihnoimoaaaPart01
import Derived.Test.YtdhfgihnoimoaaaLayerD
import Derived.Test.YtdhfgihnoimoaaaPart13
set_option linter.all false
set_option maxHeartbeats 4000000
set_option maxRecDepth 100000
namespace Go.Proofs.Ytdhfgihnoimoaaa
open Go.Sp
theorem mapInt : tMap Try.prog 155 = some (3, 3) := by simp only [ty]
theorem zeroI : tZero Try.prog 3 = some (.int .i64 0) := by simp only [ty]
theorem partsV_len (F : List Nat) (v : Nat) : (partsV F v).length = (rootsL F v).length := by simp [partsV]
theorem chI_in' {m b : Nat} {ls : List (List Int)} {n : Nat} (h : b + ls.length ≤ m) : blkIn m (.box (chI b ls ++ List.replicate n .any)) := chC_in' (by simpa using h)
theorem chI_put (b i : Nat) (ls : List (List Int)) (l : List Int) (R : List ACell) (h : i < ls.length) : (chI b ls ++ R).set i (.slice (iRows l) (.chain (i + b))) = chI b (ls.set i l) ++ R := by
 rw [List.set_append_left _ _ (by rw [chI_len]; exact h), chI_set]
theorem chI_at {b i : Nat} {ls : List (List Int)} {l : List Int} (R : List ACell) (h : ls[i]? = some l) : (chI b ls ++ R).drop i = .slice (iRows l) (.chain (i + b)) :: (chI b ls ++ R).drop (i + 1) := by
 have hl := (List.getElem?_eq_some_iff.1 h).1
 rw [List.drop_append_of_le_length (by rw [chI_len]; omega), List.drop_append_of_le_length (by rw [chI_len]; omega), chI_drop h]; rfl
theorem chI_new (b : Nat) (ls : List (List Int)) (l : List Int) (R : List ACell) : (chI b ls ++ [ACell.nils] ++ R).set ls.length (.slice (iRows l) (.chain (ls.length + b))) = chI b (ls ++ [l]) ++ R := by
 rw [List.append_assoc, List.set_append_right _ _ (by rw [chI_len]; exact Nat.le_refl _), chI_len, Nat.sub_self]
 unfold chI
 rw [List.map_append, List.map_cons, List.map_nil, chC_snoc]
 simp
theorem chI_newAt (b : Nat) (ls : List (List Int)) (R : List ACell) : (chI b ls ++ [ACell.nils] ++ R).drop ls.length = .nils :: R := by
 rw [List.append_assoc, List.drop_append, chI_len, Nat.sub_self, List.drop_eq_nil_of_le (by rw [chI_len]; exact Nat.le_refl _)]; rfl
theorem chI_newGet (b : Nat) (ls : List (List Int)) (R : List ACell) : (chI b ls ++ [ACell.nils] ++ R)[ls.length]? = some .nils := by
 have := congrArg (·[0]?) (chI_newAt b ls R)
 simpa using this
theorem chI_get' {b i : Nat} {ls : List (List Int)} {l : List Int} (R : List ACell) (h : ls[i]? = some l) : (chI b ls ++ R)[i]? = some (.slice (iRows l) (.chain (i + b))) := by
 have hl := (List.getElem?_eq_some_iff.1 h).1
 rw [List.getElem?_append_left (by rw [chI_len]; exact hl)]
 exact chI_get h
theorem chJ_snoc (ls : List (List Int)) (l : List Int) : chJ (ls ++ [l]) = chJ ls ++ [.chain l.length 1] := by
 unfold chJ; rw [List.map_append, List.map_cons, List.map_nil, chB_snoc, iRows_len]
theorem chI_no {j b : Nat} {ls : List (List Int)} : ∀ c, c ∈ chI b ls → noJ j c = true := chC_no
@[simp] theorem chJ_parts (F : List Nat) (v : Nat) : (chJ (partsV F v)).take (rootsL F v).length = chJ (partsV F v) := chJ_take (by rw [partsV_len]; exact Nat.le_refl _)
theorem noB_parts {cs0 : List ACell} {F : List Nat} (h0 : ∀ c, c ∈ cs0 → noJ 3 c = true) {es : List (MKey × MV)} {b : Blk} {ps : List (List Int)} : ∀ (i : Nat) blk, (Blk.box cs0 :: .box (fC F) :: .map es :: b :: chJ ps)[i]? = some blk → i ≠ 3 → noB 3 blk
 | 0, blk, h, _ => by simp at h; subst h; exact h0
 | 1, blk, h, _ => by
  simp at h; subst h
  intro c hc
  obtain ⟨n, _, rfl⟩ := List.mem_map.1 hc
  rfl
 | 2, blk, h, _ => by simp at h; subst h; trivial
 | 3, blk, h, hn => absurd rfl hn
 | i + 4, blk, h, _ => by
  have hm := List.mem_of_getElem? (l := chJ ps) (i := i) (a := blk) (by simpa using h)
  obtain ⟨r, _, rfl⟩ := List.mem_map.1 hm
  trivial
theorem cparts_ok (F : List Nat) (hF : FOk F) (n : Nat) (h1 : 1 ≤ n) (hn : n ≤ 12) (cs0 : List ACell) (hcs : ∀ m, 2 ≤ m → blkIn m (.box cs0)) (hno : ∀ c, c ∈ cs0 → noJ 3 c = true) :
  ACallH Try.prog 102 [.box cs0, .box (fC F)] [.c (.ptr 1 0), .c (.int .i64 (n : Int))] [.box cs0, .box (fC F)] (.c (.slice (llRows (partsV F n)) .none)) := by
 have hroot := fun (v : Nat) (hv : v < 12) (H : List Blk) (hH : H[1]? = some (.box (fC F))) => croot_call F hF v hv (id := 1) hH
 refine ACallH.of_body Try.func102 rfl (by kernel_rfl) ?_
 simp only [entry, Try.ntmps102, List.length_cons, List.length_nil, Nat.reduceAdd, Nat.reduceSub, List.replicate_succ, List.replicate_zero, List.cons_append, List.nil_append]
 repeat' (first|((first|(refine zT ?_;intro K' hK')|(refine zG ?_ ?_<;>(try refine zH ?_)<;>intro hguard<;>(try exact zX)<;>try intro K' hK'))<;>((try simp +contextual only [go_sem]);(repeat' first|(with_reducible refine hK' _ _ ?_;clear hK' K')|exact zY|with_reducible refine And.intro ?_ ?_|(with_reducible intro hpath;try exact zP)|(refine hK' _ _ ?_;clear hK' K')|fail);try refine zS ?_))|(refine zE ?_;refine hK _ _ ?_;clear hK K)|(refine zN ?_;try refine zS ?_)|refine zA ?_|(refine zB ?_;intro K hK)|(refine zC ?_ ?_<;>(try refine zH ?_)<;>intro hcond<;>try exact zX)|fail)
 refine AWp.weak (Weak.asVec 5 1 rfl rfl (by simp)) ?_
 simp only [List.length_cons, List.length_nil, List.set_cons_succ, List.set_cons_zero, List.cons_append, List.nil_append, Nat.zero_add]
 refine AWp.loopS (α:=(Nat × Nat)) 43 (fun s=>[(0,.c (.ptr 1 0)),(5,.c (.vec 3 (rootsL F s.1).length s.2)),(6,.c (.map 2)),(10,.c (.int .i64 (n : Int))),(11,.c (.int .i64 (s.1 : Int)))]) (fun s=>.box cs0 :: .box (fC F) :: .map (mR 0 (rootsL F s.1)) :: .box (chI 4 (partsV F s.1) ++ List.replicate (s.2 - (rootsL F s.1).length) .any) :: chJ (partsV F s.1)) (fun s=>s.1 ≤ n ∧ (rootsL F s.1).length ≤ s.2) (fun s=>n - s.1) ((0, 0)) (hk:=Weak.headL ((rootsL F ((0, 0)).1).length + 4) 43 [0, 5, 6, 10, 11] (by (repeat' (first | exact valsIn_nil _ | exact blksIn_nil _ | exact cellsIn_nil _ | refine And.intro ?_ ?_ | refine valsIn_cons ?_ ?_ | refine blksIn_cons ?_ ?_ | refine cellsIn_cons ?_ ?_ | exact True.intro | exact chI_in' (by rw [partsV_len]; omega) | exact chJ_in | exact hcs _ (by omega) | exact fC_in | (show _ < _; omega) | exact cellsIn_map (fun _ => True.intro) | (intro c hc; cases hc; done) | (intro c hc; simp only [List.mem_cons, List.not_mem_nil, or_false] at hc; subst hc; first | exact True.intro | exact chI_in' (by rw [partsV_len]; omega) | exact chJ_in | exact hcs _ (by omega) | exact fC_in | (show _ < _; omega)) | (intro c hc; simp only [List.mem_cons, List.not_mem_nil, or_false] at hc; rcases hc with rfl | rfl <;> first | exact True.intro | exact chI_in' (by rw [partsV_len]; omega) | exact chJ_in | exact hcs _ (by omega) | exact fC_in | (show _ < _; omega)))))) (h0:=?_) (round:=fun s hI=>?_)
 ·exact ⟨Nat.zero_le _, Nat.le_refl _⟩
 ·obtain ⟨v, cap⟩ := s
  obtain ⟨hv, hcap⟩ := hI
  simp only at hv hcap ⊢
  by_cases hlt : v < n
  ·have hltI : (v : Int) < n := by omega
   have hR := hroot v (by omega) _ (show (Blk.box cs0 :: .box (fC F) :: .map (mR 0 (rootsL F v)) :: .box (chI 4 (partsV F v) ++ List.replicate (cap - (rootsL F v).length) .any) :: chJ (partsV F v))[1]? = some (.box (fC F)) from rfl)
   have hle := rootF_le hF (n := 12) (v := v) (by omega)
   have hkl := rootsL_len F v
   have hpl := partsV_len F v
   by_cases hrv : rootF F 12 v = v
   ·rw [hrv] at hR
    have hnew := parts_new hF (by omega) hrv
    have hsucc := rootsL_succ F v
    rw [if_pos hrv] at hsucc
    have hnm : ¬ v ∈ rootsL F v := fun h => by have := (rootsL_mem.1 h).1; omega
    have hput := mR_put hnm
    have hnd := rootsL_nodup F (v + 1)
    rw [hsucc] at hnd
    have hval := mR_val (k := (rootsL F v).length) (r := v) hnd (by simp) (.c (.int .i64 0))
    generalize rootsL F v = rs at *
    generalize partsV F v = ps at *
    repeat' (first|((with_reducible refine AWp.seq (AWp.of_reg (id:=9) (AReg.pre 1 (fun K hK=>?_))));simp only [List.take_succ_cons,List.take_zero])|((with_reducible refine AWp.of_reg (id:=9) (AReg.pre 1 (fun K hK=>?_)));simp only [List.take_succ_cons,List.take_zero])|((first|(refine zT ?_;intro K' hK')|(refine zG ?_ ?_<;>(try refine zH ?_)<;>intro hguard<;>(try exact zX)<;>try intro K' hK'))<;>((try simp +contextual only [go_sem, hltI, hput, toKey]);(repeat' first|(with_reducible refine hK' _ _ ?_;clear hK' K')|((with_reducible first|refine ⟨_,_,hR,?_⟩|refine ⟨_,hR,?_⟩);try simp +contextual only [go_sem, hltI, hput, toKey])|(refine ⟨_, klInt, rfl, klInts_ok, ?_⟩ ; simp +contextual only [go_sem, hltI, hput, toKey])|exact zY|with_reducible refine And.intro ?_ ?_|(with_reducible intro hpath;try exact zP)|(refine hK' _ _ ?_;clear hK' K')|fail);try refine zS ?_))|(refine zE ?_;refine hK _ _ ?_;clear hK K)|(refine zN ?_;try refine zS ?_)|refine zA ?_|(refine zB ?_;intro K hK)|(refine zC ?_ ?_<;>(try refine zH ?_)<;>intro hcond<;>try exact zX)|fail)
    simp only [List.drop_succ_cons, List.drop_zero]
    refine AReg.nilRow (e := 27) (z := .slice none 0 0) rfl rfl rfl (by simp only [ty]) (by simp only [ty]) (by simp only [ty]) rfl ?_
    refine AReg.grow (e := 27) (e2 := 27) (by' := 24) (z := .slice none 0 0) (j := 3) (tr := .raw (.slice none 0 0)) (tok := .exact) (used := chI 4 ps) rfl rfl rfl (by simp only [ty]) (by simp only [ty]) (by simp only [ty]) (by simp only [ty]) rfl (by simp only [ty]) rfl rfl (by rw [chI_len, hpl]) hcap (by simp) rfl (by omega) (by omega) (noB_parts hno) chI_no (fun cap' hc' => ?_)
    refine AReg.rest (fun K hK => ?_)
    simp only [List.map_cons, List.map_nil, fgt, fgtC, noJ, noK, aput, List.set_cons_succ, List.set_cons_zero, cellOf, bne_self_eq_false, show ((1 : Nat) != 3) = true from rfl, show ((2 : Nat) != 3) = true from rfl, if_true, Bool.false_eq_true, if_false]
    have w1 := chI_newAt 4 ps (List.replicate (cap' - (rs.length + 1)) .any)
    have w2 := chI_new 4 ps [(v : Int)] (List.replicate (cap' - (rs.length + 1)) .any)
    have w4 := chI_newGet 4 ps (List.replicate (cap' - (rs.length + 1)) .any)
    rw [hpl] at w1 w2 w4
    have w3 := chJ_snoc ps [(v : Int)]
    repeat' (first|(with_reducible refine AWp.seq_drawM mapInt klInt zeroI (by with_unfolding_all rfl) (by with_unfolding_all kernel_rfl) (fun K hK=>?_))|(with_reducible refine AWp.last_drawM mapInt klInt zeroI (by with_unfolding_all rfl) (by with_unfolding_all kernel_rfl) (fun K hK=>?_))|((first|(refine zT ?_;intro K' hK')|(refine zG ?_ ?_<;>(try refine zH ?_)<;>intro hguard<;>(try exact zX)<;>try intro K' hK'))<;>((try simp +contextual only [go_sem, hval, w1, w2, w4, chunks, List.range, List.range.loop, toKey, Int.toNat_natCast]);(repeat' first|(with_reducible refine hK' _ _ ?_;clear hK' K')|(exact rfl)|(exact klInts_ok)|(with_reducible exact iRows_k' (by assumption))|exact zY|with_reducible refine And.intro ?_ ?_|(with_reducible intro hpath;try exact zP)|(refine hK' _ _ ?_;clear hK' K')|fail);try refine zS ?_))|(refine zE ?_;refine hK _ _ ?_;clear hK K)|(refine zN ?_;try refine zS ?_)|refine zA ?_|(refine zB ?_;intro K hK)|(refine zC ?_ ?_<;>(try refine zH ?_)<;>intro hcond<;>try exact zX)|fail)
    ·rw [chI_len, hpl, List.length_replicate]; omega
    ·have hl : (rootsL F (v + 1)).length = rs.length + 1 := by rw [hsucc]; simp
     simp only [iRows, List.map_cons, List.map_nil] at w2
     rw [chJ_len, hpl, w2, ← hnew, ← hsucc, show chJ ps ++ [Blk.chain 1 1] = chJ (partsV F (v + 1)) from by rw [hnew, w3]; rfl]
     have ht2 : (chJ (partsV F (v + 1))).take (rs.length + 1) = chJ (partsV F (v + 1)) := chJ_take (by rw [partsV_len, hl]; exact Nat.le_refl _)
     refine ⟨(v + 1, cap'),Weak.headF ((rootsL F ((v + 1, cap')).1).length + 4) 43 [0, 5, 6, 10, 11] (zc @hl (zc @ht2 trivial)) (by (repeat' (first | exact valsIn_nil _ | exact blksIn_nil _ | exact cellsIn_nil _ | refine And.intro ?_ ?_ | refine valsIn_cons ?_ ?_ | refine blksIn_cons ?_ ?_ | refine cellsIn_cons ?_ ?_ | exact True.intro | exact chI_in' (by rw [partsV_len]; omega) | exact chJ_in | exact hcs _ (by omega) | exact fC_in | (show _ < _; omega) | exact cellsIn_map (fun _ => True.intro) | (intro c hc; cases hc; done) | (intro c hc; simp only [List.mem_cons, List.not_mem_nil, or_false] at hc; subst hc; first | exact True.intro | exact chI_in' (by rw [partsV_len]; omega) | exact chJ_in | exact hcs _ (by omega) | exact fC_in | (show _ < _; omega)) | (intro c hc; simp only [List.mem_cons, List.not_mem_nil, or_false] at hc; rcases hc with rfl | rfl <;> first | exact True.intro | exact chI_in' (by rw [partsV_len]; omega) | exact chJ_in | exact hcs _ (by omega) | exact fC_in | (show _ < _; omega))))),?_,?_⟩
     ·exact ⟨hlt, by rw [hl]; exact hc'⟩
     ·simp only; omega
   ·obtain ⟨r, hr⟩ : ∃ r, rootF F 12 v = r := ⟨_, rfl⟩
    have hrlt : r < v := by omega
    have hfix := root_fix hF (u := v) (by omega)
    rw [hr] at hfix
    have hrr := root_self hF (u := r) (by omega) hfix
    have hmem : r ∈ rootsL F v := rootsL_mem.2 ⟨hrlt, hrr⟩
    obtain ⟨k, hk, hkr⟩ := List.mem_iff_getElem.1 hmem
    have hk' : (rootsL F v)[k]? = some r := by rw [List.getElem?_eq_getElem hk, hkr]
    obtain ⟨e1, e2, e3⟩ := parts_old hrv hk' hr
    have hval := mR_val (rootsL_nodup F v) hk' (.c (.int .i64 0))
    rw [hr] at hR hrv
    have hrvI : ¬ ((r : Int) = v) := by omega
    have hplen : (partV F v r).length ≤ v := by
     unfold partV
     rw [List.length_map]
     exact Nat.le_trans (List.length_filter_le _ _) (by simp)
    generalize partV F v r = p at *
    have hkI : (k : Int) < (rootsL F v).length := by omega
    have g1 := chI_get' (b := 4) (List.replicate (cap - (rootsL F v).length) .any) e2
    have g2 := chI_at (b := 4) (List.replicate (cap - (rootsL F v).length) .any) e2
    have g3 := chJ_get e2
    have g4 := chI_put 4 k (partsV F v) (p ++ [(v : Int)]) (List.replicate (cap - (rootsL F v).length) .any) (by omega)
    have g5 := chJ_set k (partsV F v) (p ++ [(v : Int)]) (n := p.length + 1) (by simp)
    rw [← e3] at g4 g5
    have hkc : k + 1 ≤ (partsV F v).length + (cap - (rootsL F v).length) := by omega
    repeat' (first|(with_reducible refine AWp.seq_drawM mapInt klInt zeroI (by with_unfolding_all rfl) (by with_unfolding_all kernel_rfl) (fun K hK=>?_))|(with_reducible refine AWp.last_drawM mapInt klInt zeroI (by with_unfolding_all rfl) (by with_unfolding_all kernel_rfl) (fun K hK=>?_))|((first|(refine zT ?_;intro K' hK')|(refine zG ?_ ?_<;>(try refine zH ?_)<;>intro hguard<;>(try exact zX)<;>try intro K' hK'))<;>((try simp +contextual only [go_sem, hltI, hrvI, hkI, hval, g1, g2, g3, g4, g5, chI_len, chJ_len, hpl, hkc, iRows_len, iRows_snoc, chunks, List.range, List.range.loop, toKey, Int.toNat_natCast, List.length_replicate]);(repeat' first|(with_reducible refine hK' _ _ ?_;clear hK' K')|((with_reducible first|refine ⟨_,_,hR,?_⟩|refine ⟨_,hR,?_⟩);try simp +contextual only [go_sem, hltI, hrvI, hkI, hval, g1, g2, g3, g4, g5, chI_len, chJ_len, hpl, hkc, iRows_len, iRows_snoc, chunks, List.range, List.range.loop, toKey, Int.toNat_natCast, List.length_replicate])|(exact rfl)|(exact klInts_ok)|(with_reducible exact iRows_k' (by assumption))|exact zY|with_reducible refine And.intro ?_ ?_|(with_reducible intro hpath;try exact zP)|(refine hK' _ _ ?_;clear hK' K')|fail);try refine zS ?_))|(refine zE ?_;refine hK _ _ ?_;clear hK K)|(refine zN ?_;try refine zS ?_)|refine zA ?_|(refine zB ?_;intro K hK)|(refine zC ?_ ?_<;>(try refine zH ?_)<;>intro hcond<;>try exact zX)|fail)
    have ht2 : (chJ (partsV F (v + 1))).take (rootsL F v).length = chJ (partsV F (v + 1)) := chJ_take (by rw [partsV_len, e1]; exact Nat.le_refl _)
    refine ⟨(v + 1, cap),Weak.headF ((rootsL F ((v + 1, cap)).1).length + 4) 43 [0, 5, 6, 10, 11] (zc @e1 (zc @ht2 trivial)) (by (repeat' (first | exact valsIn_nil _ | exact blksIn_nil _ | exact cellsIn_nil _ | refine And.intro ?_ ?_ | refine valsIn_cons ?_ ?_ | refine blksIn_cons ?_ ?_ | refine cellsIn_cons ?_ ?_ | exact True.intro | exact chI_in' (by rw [partsV_len]; omega) | exact chJ_in | exact hcs _ (by omega) | exact fC_in | (show _ < _; omega) | exact cellsIn_map (fun _ => True.intro) | (intro c hc; cases hc; done) | (intro c hc; simp only [List.mem_cons, List.not_mem_nil, or_false] at hc; subst hc; first | exact True.intro | exact chI_in' (by rw [partsV_len]; omega) | exact chJ_in | exact hcs _ (by omega) | exact fC_in | (show _ < _; omega)) | (intro c hc; simp only [List.mem_cons, List.not_mem_nil, or_false] at hc; rcases hc with rfl | rfl <;> first | exact True.intro | exact chI_in' (by rw [partsV_len]; omega) | exact chJ_in | exact hcs _ (by omega) | exact fC_in | (show _ < _; omega))))),?_,?_⟩
    ·exact ⟨hlt, by rw [e1]; exact hcap⟩
    ·simp only; omega
  ·have ev : v = n := by omega
   subst ev
   have hnl : ¬ ((v : Int) < v) := by omega
   have hpos : 0 < (rootsL F v).length := List.length_pos_iff.2 fun h => by
    have h0 : 0 ∈ rootsL F v := rootsL_mem.2 ⟨by omega, by have := rootF_le hF (n := 12) (v := 0) (by omega); omega⟩
    rw [h] at h0; cases h0
   refine zJ (stop 12) (zc @hnl trivial) trivial trivial trivial ?_
   refine AWp.vecData 5 3 4 ((partsV F v).map iRows) rfl rfl hpos hcap (by rw [List.length_map, partsV_len]) (by simp) ?_
   rw [chRows]
   simp only [List.set_cons_succ, List.set_cons_zero]
   refine AWp.weak (Weak.head2 (m := 2) (by first | omega | simp) ((fun t f => [f, f, f, f, f, t, f, f, f, f, f, f, f, f, f, f, f, f, f, f, f, f, f, f, f, f, f, f, f, f, f, f, f, f, f, f, f, f, f, f, f, f, f]) true false) rfl rfl (by (repeat' (first | exact valsIn_nil _ | exact blksIn_nil _ | exact cellsIn_nil _ | refine And.intro ?_ ?_ | refine valsIn_cons ?_ ?_ | refine blksIn_cons ?_ ?_ | refine cellsIn_cons ?_ ?_ | exact True.intro | exact chI_in' (by rw [partsV_len]; omega) | exact chJ_in | exact hcs _ (by omega) | exact fC_in | (show _ < _; omega) | exact cellsIn_map (fun _ => True.intro) | (intro c hc; cases hc; done) | (intro c hc; simp only [List.mem_cons, List.not_mem_nil, or_false] at hc; subst hc; first | exact True.intro | exact chI_in' (by rw [partsV_len]; omega) | exact chJ_in | exact hcs _ (by omega) | exact fC_in | (show _ < _; omega)) | (intro c hc; simp only [List.mem_cons, List.not_mem_nil, or_false] at hc; rcases hc with rfl | rfl <;> first | exact True.intro | exact chI_in' (by rw [partsV_len]; omega) | exact chJ_in | exact hcs _ (by omega) | exact fC_in | (show _ < _; omega)))))) ?_
   simp only [mask, List.take_succ_cons, List.take_zero, List.set_cons_succ, List.set_cons_zero]
   repeat' (first|((first|(refine zT ?_;intro K' hK')|(refine zG ?_ ?_<;>(try refine zH ?_)<;>intro hguard<;>(try exact zX)<;>try intro K' hK'))<;>((try simp +contextual only [go_sem]);(repeat' first|(with_reducible refine hK' _ _ ?_;clear hK' K')|exact zY|with_reducible refine And.intro ?_ ?_|(with_reducible intro hpath;try exact zP)|(refine hK' _ _ ?_;clear hK' K')|fail);try refine zS ?_))|(refine zE ?_;refine hK _ _ ?_;clear hK K)|(refine zN ?_;try refine zS ?_)|refine zA ?_|(refine zB ?_;intro K hK)|(refine zC ?_ ?_<;>(try refine zH ?_)<;>intro hcond<;>try exact zX)|fail)
   simp [RetsH, aretH, ares, noTup, Try.results102]
end Go.Proofs.Ytdhfgihnoimoaaa
namespace Go.Proofs.Ytdhfgihnoimoaaa
open Go.Sp Go.RowKit
open Go.Sort (SWO)
set_option maxHeartbeats 1000000
end Go.Proofs.Ytdhfgihnoimoaaa
namespace Go.Proofs.Ytdhfgihnoimoaaa
open Go.Sp
theorem pairs_mem {g : G} (hc : checkG g = 0) (p : Int × Int) : p ∈ pairsE g.es ↔ p ∈ endsL g.es := by
 constructor
 ·intro h
  obtain ⟨e, he, rfl⟩ := List.mem_map.1 h
  have := (checkG_zero.1 hc).2.1 e he
  unfold okE at this
  exact List.mem_flatMap.2 ⟨e, he, List.mem_replicate.2 ⟨by omega, rfl⟩⟩
 ·intro h
  obtain ⟨e, he, rfl⟩ := endsL_mem h
  exact List.mem_map.2 ⟨e, he, rfl⟩
theorem roots_count {F : List Nat} (hF : FOk F) : ∀ n, n ≤ 12 → rootsN F n = (rootsL F n).length := by
 intro n
 induction n with
 | zero => intro _; rfl
 | succ n ih =>
  intro hn
  rw [rootsL_succ]
  simp only [rootsN, ih (by omega)]
  by_cases h : rootF F 12 n = n
  ·rw [if_pos h, if_pos ((root_iff hF (by omega)).1 h)]; simp
  ·rw [if_neg h, if_neg (fun e => h ((root_iff hF (by omega)).2 e))]; simp
theorem roots_same {l m : List (Int × Int)} (hl : In12 l) (hm : In12 m) (h : ∀ p, p ∈ l ↔ p ∈ m) : ∀ n, n ≤ 12 → rootsN (genS l).1 n = rootsN (genS m).1 n := by
 intro n
 induction n with
 | zero => intro _; rfl
 | succ n ih =>
  intro hn
  simp only [rootsN, ih (by omega)]
  have h1 := isRoot_iff hl (v := n) (by omega)
  have h2 := isRoot_iff hm (v := n) (by omega)
  have h3 : (∃ u, u < n ∧ Conn l u n) ↔ (∃ u, u < n ∧ Conn m u n) :=
   ⟨fun ⟨u, h4, h5⟩ => ⟨u, h4, h5.mono fun p hp => (h p).1 hp⟩, fun ⟨u, h4, h5⟩ => ⟨u, h4, h5.mono fun p hp => (h p).2 hp⟩⟩
  by_cases e : (genS l).1[n]? = some n
  ·rw [if_pos e, if_pos (h2.2 fun x => h1.1 e (h3.2 x))]
  ·rw [if_neg e, if_neg (fun x => e (h1.2 fun y => h2.1 x (h3.1 y)))]
theorem cparts_count {g : G} {n : Nat} (hc : checkG g = 0) (hn : g.n = n) : (partsV (genS (pairsE g.es)).1 n).length = partsN g.es n n := by
 have h12 := (checkG_zero.1 hc).1
 have hp := pairs_in12 hc
 have he : In12 (endsL g.es) := fun p h => hp p ((pairs_mem hc p).2 h)
 have h1 := parts_roots hc hn n (Nat.le_refl _)
 have h2 := roots_same hp he (pairs_mem hc) n (by omega)
 have h3 := roots_count (uf _ hp).ok n (by omega)
 rw [partsV_len]; omega
theorem Components_ok (g : G) (hl : g.es.length < 2 ^ 30) : ACall Try.prog 80 [tG g] (.tup [tlists (if checkG g ≠ 0 then [] else partsV (genS (pairsE g.es)).1 g.n.toNat), tint (checkG g)]) := by
 have hC := Check_ok g (by omega)
 by_cases hc : checkG g = 0
 ·have hJ := cjoined_ok g hc hl
  have hF := (uf _ (pairs_in12 hc)).ok
  have h12 := (checkG_zero.1 hc).1
  rw [if_neg (by omega), hc]
  rw [hc] at hC
  have hlF := hF.len
  unfold tF at hJ
  obtain ⟨n, es⟩ := g
  simp only at hJ h12 ⊢
  generalize (genS (pairsE es)).1 = F at *
  have hP3 := cparts_ok F hF n.toNat (by omega) (by omega) [.int .i64 n, .slice (eRows es) .none] (fun m _ c hc => by
   simp only [List.mem_cons, List.not_mem_nil, or_false] at hc
   rcases hc with rfl | rfl <;> exact True.intro) (fun c hc => by
   simp only [List.mem_cons, List.not_mem_nil, or_false] at hc
   rcases hc with rfl | rfl <;> rfl)
  rw [show ((n.toNat : Nat) : Int) = n by omega] at hP3
  generalize partsV F n.toNat = ps at *
  have hof : (fT F).map ofTree = fC F := fT_of F
  have hst := fC_store zero12 F (by rw [hlF]; rfl)
  have hz : fC zero12 = [.int .i64 0, .int .i64 0, .int .i64 0, .int .i64 0, .int .i64 0, .int .i64 0, .int .i64 0, .int .i64 0, .int .i64 0, .int .i64 0, .int .i64 0, .int .i64 0] := rfl
  rw [hz] at hst
  refine ACall.of_body Try.func80 rfl (by kernel_rfl) ?_
  simp only [entry, Try.ntmps80, tG]
  refine zU ?_
  refine zJ trivial (zc @fC_len (zc @fC_free (zc @hof (zc @hst (zc @hlF trivial))))) (zc hC (zc hJ trivial)) (zc hP3 trivial) trivial ?_
  simp [Rets, aret, Blk.cells, ty, Try.results80, ares, toT1, toT, borrow, borrow0, capCell, toTree0, tint, tlists]
 ·rw [if_pos hc]
  generalize checkG g = E at *
  obtain ⟨n, es⟩ := g
  refine ACall.of_body Try.func80 rfl (by kernel_rfl) ?_
  simp only [entry, Try.ntmps80, tG]
  refine zU ?_
  refine zR (zc @hc trivial) (zc hC trivial) trivial ?_
  simp [Rets, aret, Blk.cells, ty, Try.results80, ares, toT1, toT, borrow, borrow0, capCell, toTree0, tint, tlists, llRows]
theorem Connected_ok (g : G) (hl : g.es.length < 2 ^ 30) : ACall Try.prog 60 [tG g] (.tup [tbool (decide (checkG g = 0) && connB g), tint (checkG g)]) := by
 have hC := Components_ok g hl
 by_cases hc : checkG g = 0
 ·have h12 := (checkG_zero.1 hc).1
  have hcnt := cparts_count (n := g.n.toNat) hc (by omega)
  rw [if_neg (by omega)] at hC
  have hb : (decide (checkG g = 0) && connB g) = decide (((partsV (genS (pairsE g.es)).1 g.n.toNat).length : Int) = 1) := by
   rw [decide_eq_true hc, Bool.true_and]
   unfold connB
   rw [← hcnt]
   exact decide_eq_decide.2 (by omega)
  rw [hb]
  generalize partsV (genS (pairsE g.es)).1 g.n.toNat = ps at *
  generalize checkG g = E at *
  obtain ⟨n, es⟩ := g
  refine ACall.of_body Try.func60 rfl (by kernel_rfl) ?_
  simp only [entry, Try.ntmps60, tG]
  refine zU ?_
  refine zR (zc @llRows_len trivial) (zc hC trivial) trivial ?_
  simp [Rets, aret, Blk.cells, ty, Try.results60, ares, toT1, toT, borrow, borrow0, capCell, toTree0, tint, tbool]
 ·rw [if_pos hc] at hC
  rw [decide_eq_false hc, Bool.false_and]
  generalize checkG g = E at *
  obtain ⟨n, es⟩ := g
  refine ACall.of_body Try.func60 rfl (by kernel_rfl) ?_
  simp only [entry, Try.ntmps60, tG]
  refine zU ?_
  refine zR (zc @llRows_len trivial) (zc hC trivial) trivial ?_
  simp [Rets, aret, Blk.cells, ty, Try.results60, ares, toT1, toT, borrow, borrow0, capCell, toTree0, tint, tbool]
def ATf (L : List (Nat × Nat)) : List (List Int) := (List.range 12).map fun v => zI (atV L v)
theorem ATf_len (L : List (Nat × Nat)) : (ATf L).length = 12 := by simp [ATf]
theorem zI_snoc (T : List Nat) (x : Nat) : zI T ++ [(x : Int)] = zI (T ++ [x]) := by simp [zI]
end Go.Proofs.Ytdhfgihnoimoaaa
