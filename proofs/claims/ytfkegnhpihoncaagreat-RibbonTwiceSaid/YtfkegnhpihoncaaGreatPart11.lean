/- A part of the proof: contracts of functions of the program, and plain lemmas. -/
import Derived.Test.YtfkegnhpihoncaaGreatPart10
import Derived.Test.YtfkegnhpihoncaaGreatLayerB
import Derived.Test.YtfkegnhpihoncaaGreatLayerC
import Derived.Test.YtfkegnhpihoncaaGreatPart01
set_option linter.all false
namespace Go.Proofs.YtfkegnhpihoncaaGreat
open Go.Sp
set_option linter.unusedSimpArgs false
set_option linter.unusedVariables false
set_option maxHeartbeats 4000000
set_option maxRecDepth 100000
theorem mapInt : tMap Tryz.prog 212 = some (3, 3) := by simp only [ty]
theorem zeroI : tZero Tryz.prog 3 = some (.int .i64 0) := by simp only [ty]
theorem partsV_len (F : List Nat) (v : Nat) : (partsV F v).length = (rootsL F v).length := by simp [partsV]
theorem chI_in' {m b : Nat} {ls : List (List Int)} {n : Nat} (h : b + ls.length ≤ m) : blkIn m (.box (chI b ls ++ List.replicate n .any)) := chC_in' (by simpa using h)
theorem chI_put (b i : Nat) (ls : List (List Int)) (l : List Int) (R : List ACell) (h : i < ls.length) : (chI b ls ++ R).set i (.slice (iRows l) (.chain (i + b))) = chI b (ls.set i l) ++ R := by
  rw [List.set_append_left _ _ (by rw [chI_len]; exact h), chI_set]
theorem chI_at {b i : Nat} {ls : List (List Int)} {l : List Int} (R : List ACell) (h : ls[i]? = some l) : (chI b ls ++ R).drop i = .slice (iRows l) (.chain (i + b)) :: (chI b ls ++ R).drop (i + 1) := by
  have hl := (List.getElem?_eq_some_iff.1 h).1
  rw [List.drop_append_of_le_length (by rw [chI_len]; omega), List.drop_append_of_le_length (by rw [chI_len]; omega), chI_drop h]; rfl
theorem chI_new (b : Nat) (ls : List (List Int)) (l : List Int) (R : List ACell) : (chI b ls ++ [ACell.nils] ++ R).set ls.length (.slice (iRows l) (.chain (ls.length + b))) = chI b (ls ++ [l]) ++ R := by
  rw [List.append_assoc, List.set_append_right _ _ (by rw [chI_len]; exact Nat.le_refl _), chI_len, Nat.sub_self]
  unfold chI
  rw [List.map_append, List.map_cons, List.map_nil, chC_snoc]
  simp
theorem chI_newAt (b : Nat) (ls : List (List Int)) (R : List ACell) : (chI b ls ++ [ACell.nils] ++ R).drop ls.length = .nils :: R := by
  rw [List.append_assoc, List.drop_append, chI_len, Nat.sub_self, List.drop_eq_nil_of_le (by rw [chI_len]; exact Nat.le_refl _)]; rfl
theorem chI_newGet (b : Nat) (ls : List (List Int)) (R : List ACell) : (chI b ls ++ [ACell.nils] ++ R)[ls.length]? = some .nils := by
  have := congrArg (·[0]?) (chI_newAt b ls R)
  simpa using this
theorem chI_get' {b i : Nat} {ls : List (List Int)} {l : List Int} (R : List ACell) (h : ls[i]? = some l) : (chI b ls ++ R)[i]? = some (.slice (iRows l) (.chain (i + b))) := by
  have hl := (List.getElem?_eq_some_iff.1 h).1
  rw [List.getElem?_append_left (by rw [chI_len]; exact hl)]
  exact chI_get h
theorem chJ_snoc (ls : List (List Int)) (l : List Int) : chJ (ls ++ [l]) = chJ ls ++ [.chain l.length 1] := by
  unfold chJ; rw [List.map_append, List.map_cons, List.map_nil, chB_snoc, iRows_len]
theorem chI_no {j b : Nat} {ls : List (List Int)} : ∀ c, c ∈ chI b ls → noJ j c = true := chC_no
@[simp] theorem chJ_parts (F : List Nat) (v : Nat) : (chJ (partsV F v)).take (rootsL F v).length = chJ (partsV F v) := chJ_take (by rw [partsV_len]; exact Nat.le_refl _)
theorem noB_parts {cs0 : List ACell} {F : List Nat} (h0 : ∀ c, c ∈ cs0 → noJ 3 c = true) {es : List (MKey × MV)} {b : Blk} {ps : List (List Int)} : ∀ (i : Nat) blk, (Blk.box cs0 :: .box (fC F) :: .map es :: b :: chJ ps)[i]? = some blk → i ≠ 3 → noB 3 blk
  | 0, blk, h, _ => by simp at h; subst h; exact h0
  | 1, blk, h, _ => by
    simp at h; subst h
    intro c hc
    obtain ⟨n, _, rfl⟩ := List.mem_map.1 hc
    rfl
  | 2, blk, h, _ => by simp at h; subst h; trivial
  | 3, blk, h, hn => absurd rfl hn
  | i + 4, blk, h, _ => by
    have hm := List.mem_of_getElem? (l := chJ ps) (i := i) (a := blk) (by simpa using h)
    obtain ⟨r, _, rfl⟩ := List.mem_map.1 hm
    trivial
theorem cparts_ok (F : List Nat) (hF : FOk F) (n : Nat) (h1 : 1 ≤ n) (hn : n ≤ 12) (cs0 : List ACell) (hcs : ∀ m, 2 ≤ m → blkIn m (.box cs0)) (hno : ∀ c, c ∈ cs0 → noJ 3 c = true) :
    ACallH Tryz.prog 174 [.box cs0, .box (fC F)] [.c (.ptr 1 0), .c (.int .i64 (n : Int))] [.box cs0, .box (fC F)] (.c (.slice (llRows (partsV F n)) .none)) := by
  have hroot := fun (v : Nat) (hv : v < 12) (H : List Blk) (hH : H[1]? = some (.box (fC F))) => croot_call F hF v hv (id := 1) hH
  refine ACallH.of_body Tryz.func174 rfl (by kernel_rfl) ?_
  simp only [entry, Tryz.ntmps174, List.length_cons, List.length_nil, Nat.reduceAdd, Nat.reduceSub, List.replicate_succ, List.replicate_zero, List.cons_append, List.nil_append]
  refine zR trivial trivial trivial ?_
  refine AWp.weak (Weak.asVec 5 1 rfl rfl (by simp)) ?_
  simp only [List.length_cons, List.length_nil, List.set_cons_succ, List.set_cons_zero, List.cons_append, List.nil_append, Nat.zero_add]
  refine AWp.loopS (α:=(Nat × Nat)) 43 (fun s=>[(0,.c (.ptr 1 0)),(5,.c (.vec 3 (rootsL F s.1).length s.2)),(6,.c (.map 2)),(10,.c (.int .i64 (n : Int))),(11,.c (.int .i64 (s.1 : Int)))]) (fun s=>.box cs0 :: .box (fC F) :: .map (mR 0 (rootsL F s.1)) :: .box (chI 4 (partsV F s.1) ++ List.replicate (s.2 - (rootsL F s.1).length) .any) :: chJ (partsV F s.1)) (fun s=>s.1 ≤ n ∧ (rootsL F s.1).length ≤ s.2) (fun s=>n - s.1) ((0, 0)) (hk:=Weak.headL ((rootsL F ((0, 0)).1).length + 4) 43 [0, 5, 6, 10, 11] (by (repeat' (first | exact valsIn_nil _ | exact blksIn_nil _ | exact cellsIn_nil _ | refine And.intro ?_ ?_ | refine valsIn_cons ?_ ?_ | refine blksIn_cons ?_ ?_ | refine cellsIn_cons ?_ ?_ | exact True.intro | exact chI_in' (by rw [partsV_len]; omega) | exact chJ_in | exact hcs _ (by omega) | exact fC_in | (show _ < _; omega) | exact cellsIn_map (fun _ => True.intro) | (intro c hc; cases hc; done) | (intro c hc; simp only [List.mem_cons, List.not_mem_nil, or_false] at hc; subst hc; exact True.intro) | (intro c hc; simp only [List.mem_cons, List.not_mem_nil, or_false] at hc; rcases hc with rfl | rfl <;> exact True.intro))))) (h0:=?_) (round:=fun s hI=>?_)
  · exact ⟨Nat.zero_le _, Nat.le_refl _⟩
  · obtain ⟨v, cap⟩ := s
    obtain ⟨hv, hcap⟩ := hI
    simp only at hv hcap ⊢
    by_cases hlt : v < n
    · have hltI : (v : Int) < n := by omega
      have hR := hroot v (by omega) _ (show (Blk.box cs0 :: .box (fC F) :: .map (mR 0 (rootsL F v)) :: .box (chI 4 (partsV F v) ++ List.replicate (cap - (rootsL F v).length) .any) :: chJ (partsV F v))[1]? = some (.box (fC F)) from rfl)
      have hle := rootF_le hF (n := 12) (v := v) (by omega)
      have hkl := rootsL_len F v
      have hpl := partsV_len F v
      by_cases hrv : rootF F 12 v = v
      · rw [hrv] at hR
        have hnew := parts_new hF (by omega) hrv
        have hsucc := rootsL_succ F v
        rw [if_pos hrv] at hsucc
        have hnm : ¬ v ∈ rootsL F v := fun h => by have := (rootsL_mem.1 h).1; omega
        have hput := mR_put hnm
        have hnd := rootsL_nodup F (v + 1)
        rw [hsucc] at hnd
        have hval := mR_val (k := (rootsL F v).length) (r := v) hnd (by simp) (.c (.int .i64 0))
        generalize rootsL F v = rs at *
        generalize partsV F v = ps at *
        repeat' (first|((with_reducible refine AWp.seq (AWp.of_reg (id:=9) (AReg.pre 1 (fun K hK=>?_))));simp only [List.take_succ_cons,List.take_zero])|((with_reducible refine AWp.of_reg (id:=9) (AReg.pre 1 (fun K hK=>?_)));simp only [List.take_succ_cons,List.take_zero])|((first|(refine zT ?_;intro K' hK')|(refine zG ?_ ?_<;>(try refine zH ?_)<;>intro hguard<;>(try exact zX)<;>try intro K' hK'))<;>((try simp +contextual only [go_sem, hltI, hput, toKey]);(repeat' first|(with_reducible refine hK' _ _ ?_;clear hK' K')|((with_reducible first|refine ⟨_,_,hR,?_⟩|refine ⟨_,hR,?_⟩);try simp +contextual only [go_sem, hltI, hput, toKey])|(refine ⟨_, klInt, rfl, klInts_ok, ?_⟩ ; simp +contextual only [go_sem, hltI, hput, toKey])|exact zY|with_reducible refine And.intro ?_ ?_|(with_reducible intro hpath;try exact zP)|(refine hK' _ _ ?_;clear hK' K')|fail);try refine zS ?_))|(refine zE ?_;refine hK _ _ ?_;clear hK K)|(refine zN ?_;try refine zS ?_)|refine zA ?_|(refine zB ?_;intro K hK)|(refine zC ?_ ?_<;>(try refine zH ?_)<;>intro hcond<;>try exact zX)|fail)
        simp only [List.drop_succ_cons, List.drop_zero]
        refine AReg.nilRow (e := 40) (z := .slice none 0 0) rfl rfl rfl (by simp only [ty]) (by simp only [ty]) (by simp only [ty]) rfl ?_
        refine AReg.grow (e := 40) (e2 := 40) (by' := 24) (z := .slice none 0 0) (j := 3) (tr := .raw (.slice none 0 0)) (tok := .exact) (used := chI 4 ps) rfl rfl rfl (by simp only [ty]) (by simp only [ty]) (by simp only [ty]) (by simp only [ty]) rfl (by simp only [ty]) rfl rfl (by rw [chI_len, hpl]) hcap (by simp) rfl (by omega) (by omega) (noB_parts hno) chI_no (fun cap' hc' => ?_)
        refine AReg.rest (fun K hK => ?_)
        simp only [List.map_cons, List.map_nil, fgt, fgtC, noJ, noK, aput, List.set_cons_succ, List.set_cons_zero, cellOf, bne_self_eq_false, show ((1 : Nat) != 3) = true from rfl, show ((2 : Nat) != 3) = true from rfl, if_true, Bool.false_eq_true, if_false]
        have w1 := chI_newAt 4 ps (List.replicate (cap' - (rs.length + 1)) .any)
        have w2 := chI_new 4 ps [(v : Int)] (List.replicate (cap' - (rs.length + 1)) .any)
        have w4 := chI_newGet 4 ps (List.replicate (cap' - (rs.length + 1)) .any)
        rw [hpl] at w1 w2 w4
        have w3 := chJ_snoc ps [(v : Int)]
        repeat' (first|(with_reducible refine AWp.seq_drawM mapInt klInt zeroI (by with_unfolding_all rfl) (by with_unfolding_all kernel_rfl) (fun K hK=>?_))|(with_reducible refine AWp.last_drawM mapInt klInt zeroI (by with_unfolding_all rfl) (by with_unfolding_all kernel_rfl) (fun K hK=>?_))|((first|(refine zT ?_;intro K' hK')|(refine zG ?_ ?_<;>(try refine zH ?_)<;>intro hguard<;>(try exact zX)<;>try intro K' hK'))<;>((try simp +contextual only [go_sem, hval, w1, w2, w4, chunks, List.range, List.range.loop, toKey, Int.toNat_natCast]);(repeat' first|(with_reducible refine hK' _ _ ?_;clear hK' K')|(exact rfl)|(exact klInts_ok)|(with_reducible exact iRows_k' (by assumption))|exact zY|with_reducible refine And.intro ?_ ?_|(with_reducible intro hpath;try exact zP)|(refine hK' _ _ ?_;clear hK' K')|fail);try refine zS ?_))|(refine zE ?_;refine hK _ _ ?_;clear hK K)|(refine zN ?_;try refine zS ?_)|refine zA ?_|(refine zB ?_;intro K hK)|(refine zC ?_ ?_<;>(try refine zH ?_)<;>intro hcond<;>try exact zX)|fail)
        · rw [chI_len, hpl, List.length_replicate]; omega
        · have hl : (rootsL F (v + 1)).length = rs.length + 1 := by rw [hsucc]; simp
          simp only [iRows, List.map_cons, List.map_nil] at w2
          rw [chJ_len, hpl, w2, ← hnew, ← hsucc, show chJ ps ++ [Blk.chain 1 1] = chJ (partsV F (v + 1)) from by rw [hnew, w3]; rfl]
          have ht2 : (chJ (partsV F (v + 1))).take (rs.length + 1) = chJ (partsV F (v + 1)) := chJ_take (by rw [partsV_len, hl]; exact Nat.le_refl _)
          refine ⟨(v + 1, cap'),Weak.headF ((rootsL F ((v + 1, cap')).1).length + 4) 43 [0, 5, 6, 10, 11] (zc @hl (zc @ht2 trivial)) (by (repeat' (first | exact valsIn_nil _ | exact blksIn_nil _ | exact cellsIn_nil _ | refine And.intro ?_ ?_ | refine valsIn_cons ?_ ?_ | refine blksIn_cons ?_ ?_ | refine cellsIn_cons ?_ ?_ | exact True.intro | exact chI_in' (by rw [partsV_len]; omega) | exact chJ_in | exact hcs _ (by omega) | exact fC_in | (show _ < _; omega) | exact cellsIn_map (fun _ => True.intro) | (intro c hc; cases hc; done) | (intro c hc; simp only [List.mem_cons, List.not_mem_nil, or_false] at hc; subst hc; exact True.intro) | (intro c hc; simp only [List.mem_cons, List.not_mem_nil, or_false] at hc; rcases hc with rfl | rfl <;> exact True.intro)))),?_,?_⟩
          · exact ⟨hlt, by rw [hl]; exact hc'⟩
          · simp only; omega
      · obtain ⟨r, hr⟩ : ∃ r, rootF F 12 v = r := ⟨_, rfl⟩
        have hrlt : r < v := by omega
        have hfix := root_fix hF (u := v) (by omega)
        rw [hr] at hfix
        have hrr := root_self hF (u := r) (by omega) hfix
        have hmem : r ∈ rootsL F v := rootsL_mem.2 ⟨hrlt, hrr⟩
        obtain ⟨k, hk, hkr⟩ := List.mem_iff_getElem.1 hmem
        have hk' : (rootsL F v)[k]? = some r := by rw [List.getElem?_eq_getElem hk, hkr]
        obtain ⟨e1, e2, e3⟩ := parts_old hrv hk' hr
        have hval := mR_val (rootsL_nodup F v) hk' (.c (.int .i64 0))
        rw [hr] at hR hrv
        have hrvI : ¬ ((r : Int) = v) := by omega
        have hplen : (partV F v r).length ≤ v := by
          unfold partV
          rw [List.length_map]
          exact Nat.le_trans (List.length_filter_le _ _) (by simp)
        generalize partV F v r = p at *
        have hkI : (k : Int) < (rootsL F v).length := by omega
        have g1 := chI_get' (b := 4) (List.replicate (cap - (rootsL F v).length) .any) e2
        have g2 := chI_at (b := 4) (List.replicate (cap - (rootsL F v).length) .any) e2
        have g3 := chJ_get e2
        have g4 := chI_put 4 k (partsV F v) (p ++ [(v : Int)]) (List.replicate (cap - (rootsL F v).length) .any) (by omega)
        have g5 := chJ_set k (partsV F v) (p ++ [(v : Int)]) (n := p.length + 1) (by simp)
        rw [← e3] at g4 g5
        have hkc : k + 1 ≤ (partsV F v).length + (cap - (rootsL F v).length) := by omega
        repeat' (first|(with_reducible refine AWp.seq_drawM mapInt klInt zeroI (by with_unfolding_all rfl) (by with_unfolding_all kernel_rfl) (fun K hK=>?_))|(with_reducible refine AWp.last_drawM mapInt klInt zeroI (by with_unfolding_all rfl) (by with_unfolding_all kernel_rfl) (fun K hK=>?_))|((first|(refine zT ?_;intro K' hK')|(refine zG ?_ ?_<;>(try refine zH ?_)<;>intro hguard<;>(try exact zX)<;>try intro K' hK'))<;>((try simp +contextual only [go_sem, hltI, hrvI, hkI, hval, g1, g2, g3, g4, g5, chI_len, chJ_len, hpl, hkc, iRows_len, iRows_snoc, chunks, List.range, List.range.loop, toKey, Int.toNat_natCast, List.length_replicate]);(repeat' first|(with_reducible refine hK' _ _ ?_;clear hK' K')|((with_reducible first|refine ⟨_,_,hR,?_⟩|refine ⟨_,hR,?_⟩);try simp +contextual only [go_sem, hltI, hrvI, hkI, hval, g1, g2, g3, g4, g5, chI_len, chJ_len, hpl, hkc, iRows_len, iRows_snoc, chunks, List.range, List.range.loop, toKey, Int.toNat_natCast, List.length_replicate])|(exact rfl)|(exact klInts_ok)|(with_reducible exact iRows_k' (by assumption))|exact zY|with_reducible refine And.intro ?_ ?_|(with_reducible intro hpath;try exact zP)|(refine hK' _ _ ?_;clear hK' K')|fail);try refine zS ?_))|(refine zE ?_;refine hK _ _ ?_;clear hK K)|(refine zN ?_;try refine zS ?_)|refine zA ?_|(refine zB ?_;intro K hK)|(refine zC ?_ ?_<;>(try refine zH ?_)<;>intro hcond<;>try exact zX)|fail)
        have ht2 : (chJ (partsV F (v + 1))).take (rootsL F v).length = chJ (partsV F (v + 1)) := chJ_take (by rw [partsV_len, e1]; exact Nat.le_refl _)
        refine ⟨(v + 1, cap),Weak.headF ((rootsL F ((v + 1, cap)).1).length + 4) 43 [0, 5, 6, 10, 11] (zc @e1 (zc @ht2 trivial)) (by (repeat' (first | exact valsIn_nil _ | exact blksIn_nil _ | exact cellsIn_nil _ | refine And.intro ?_ ?_ | refine valsIn_cons ?_ ?_ | refine blksIn_cons ?_ ?_ | refine cellsIn_cons ?_ ?_ | exact True.intro | exact chI_in' (by rw [partsV_len]; omega) | exact chJ_in | exact hcs _ (by omega) | exact fC_in | (show _ < _; omega) | exact cellsIn_map (fun _ => True.intro) | (intro c hc; cases hc; done) | (intro c hc; simp only [List.mem_cons, List.not_mem_nil, or_false] at hc; subst hc; exact True.intro) | (intro c hc; simp only [List.mem_cons, List.not_mem_nil, or_false] at hc; rcases hc with rfl | rfl <;> exact True.intro)))),?_,?_⟩
        · exact ⟨hlt, by rw [e1]; exact hcap⟩
        · simp only; omega
    · have ev : v = n := by omega
      subst ev
      have hnl : ¬ ((v : Int) < v) := by omega
      have hpos : 0 < (rootsL F v).length := List.length_pos_iff.2 fun h => by
        have h0 : 0 ∈ rootsL F v := rootsL_mem.2 ⟨by omega, by have := rootF_le hF (n := 12) (v := 0) (by omega); omega⟩
        rw [h] at h0; cases h0
      repeat' ((fail_if_success (with_reducible refine AWp.atSeq 12 ?_));(fail_if_success (with_reducible refine AWp.atLast 12 ?_));first|((first|(refine zT ?_;intro K' hK')|(refine zG ?_ ?_<;>(try refine zH ?_)<;>intro hguard<;>(try exact zX)<;>try intro K' hK'))<;>((try simp +contextual only [go_sem, hnl]);(repeat' first|(with_reducible refine hK' _ _ ?_;clear hK' K')|exact zY|with_reducible refine And.intro ?_ ?_|(with_reducible intro hpath;try exact zP)|(refine hK' _ _ ?_;clear hK' K')|fail);try refine zS ?_))|(refine zE ?_;refine hK _ _ ?_;clear hK K)|(refine zN ?_;try refine zS ?_)|refine zA ?_|(refine zB ?_;intro K hK)|(refine zC ?_ ?_<;>(try refine zH ?_)<;>intro hcond<;>try exact zX)|fail)
      refine AWp.vecData 5 3 4 ((partsV F v).map iRows) rfl rfl hpos hcap (by rw [List.length_map, partsV_len]) (by simp) ?_
      rw [chRows]
      simp only [List.set_cons_succ, List.set_cons_zero]
      refine AWp.weak (Weak.head2 (m := 2) (by first | omega | simp) ((fun t f => [f, f, f, f, f, t, f, f, f, f, f, f, f, f, f, f, f, f, f, f, f, f, f, f, f, f, f, f, f, f, f, f, f, f, f, f, f, f, f, f, f, f, f]) true false) rfl rfl (by (repeat' (first | exact valsIn_nil _ | exact blksIn_nil _ | exact cellsIn_nil _ | refine And.intro ?_ ?_ | refine valsIn_cons ?_ ?_ | refine blksIn_cons ?_ ?_ | refine cellsIn_cons ?_ ?_ | exact True.intro | exact chI_in' (by rw [partsV_len]; omega) | exact chJ_in | exact hcs _ (by omega) | exact fC_in | (show _ < _; omega) | exact cellsIn_map (fun _ => True.intro) | (intro c hc; cases hc; done) | (intro c hc; simp only [List.mem_cons, List.not_mem_nil, or_false] at hc; subst hc; exact True.intro) | (intro c hc; simp only [List.mem_cons, List.not_mem_nil, or_false] at hc; rcases hc with rfl | rfl <;> exact True.intro))))) ?_
      simp only [mask, List.take_succ_cons, List.take_zero, List.set_cons_succ, List.set_cons_zero]
      refine zR trivial trivial trivial ?_
      simp [RetsH, aretH, ares, noTup, Tryz.results174]
end Go.Proofs.YtfkegnhpihoncaaGreat
set_option linter.all false
namespace Go.Proofs.YtfkegnhpihoncaaGreat
open Go.Sp
set_option linter.unusedSimpArgs false
set_option linter.unusedVariables false
def atL (L : List (Int × Int)) (h : Nat) : Int := if h % 2 = 0 then (L.getD (h / 2) (0, 0)).1 else (L.getD (h / 2) (0, 0)).2
def ownL (L : List (Int × Int)) (v : Int) (k : Nat) : List Int := ((List.range k).filter fun h => decide (atL L h = v)).map fun h : Nat => (h : Int)
def halvesL (L : List (Int × Int)) (n k : Nat) : List (List Int) := (List.range n).map fun v : Nat => ownL L (v : Int) k
theorem ownL_succ (L : List (Int × Int)) (v : Int) (k : Nat) : ownL L v (k + 1) = if atL L k = v then ownL L v k ++ [(k : Int)] else ownL L v k := by
  unfold ownL
  rw [List.range_succ, List.filter_append]
  by_cases h : atL L k = v <;> simp [h]
theorem ownL_mem {L : List (Int × Int)} {v : Int} {k : Nat} {x : Int} : x ∈ ownL L v k ↔ 0 ≤ x ∧ x < k ∧ atL L x.toNat = v := by
  unfold ownL
  rw [List.mem_map]
  constructor
  · rintro ⟨h, hm, rfl⟩
    rw [List.mem_filter, List.mem_range, decide_eq_true_eq] at hm
    exact ⟨by omega, by omega, by simpa using hm.2⟩
  · rintro ⟨h1, h2, h3⟩
    refine ⟨x.toNat, ?_, by omega⟩
    rw [List.mem_filter, List.mem_range, decide_eq_true_eq]
    exact ⟨by omega, h3⟩
theorem ownL_sorted (L : List (Int × Int)) (v : Int) (k : Nat) : (ownL L v k).Pairwise (· < ·) := by
  unfold ownL
  rw [List.pairwise_map]
  exact (List.pairwise_lt_range.filter _).imp fun h => by omega
theorem ownL_len (L : List (Int × Int)) (v : Int) (k : Nat) : (ownL L v k).length ≤ k := by
  unfold ownL
  rw [List.length_map]
  exact Nat.le_trans (List.length_filter_le _ _) (by simp)
theorem halvesL_len (L : List (Int × Int)) (n k : Nat) : (halvesL L n k).length = n := by simp [halvesL]
theorem halvesL_get {L : List (Int × Int)} {n k v : Nat} (hv : v < n) : (halvesL L n k)[v]? = some (ownL L (v : Int) k) := by simp [halvesL, hv]
theorem halvesL_zero (L : List (Int × Int)) (n : Nat) : List.replicate n [] = halvesL L n 0 := by
  rw [halvesL, eq_comm, List.eq_replicate_iff]
  exact ⟨by simp, fun x hx => by obtain ⟨_, _, rfl⟩ := List.mem_map.1 hx; rfl⟩
theorem halvesL_succ {L : List (Int × Int)} {n k v : Nat} (hv : v < n) (h : atL L k = v) : halvesL L n (k + 1) = (halvesL L n k).set v (ownL L (v : Int) k ++ [(k : Int)]) := by
  apply List.ext_getElem?
  intro i
  by_cases hi : i < n
  · rw [halvesL_get hi, ownL_succ]
    by_cases e : v = i
    · subst e
      rw [List.getElem?_set_self (by rw [halvesL_len]; exact hv), if_pos h]
    · rw [List.getElem?_set_ne e, halvesL_get hi, if_neg (by omega)]
  · rw [List.getElem?_eq_none (by rw [halvesL_len]; omega), List.getElem?_eq_none (by rw [List.length_set, halvesL_len]; omega)]
def lstGo (own : List Int) : List Int → List Int → Int
  | _, [] => 0
  | pre, h :: t => if h ∈ own then (if h ∈ pre then 7 else lstGo own (pre ++ [h]) t) else 2
def lstErr (l own : List Int) : Int :=
  if l.length ≠ own.length then 8 else if lstGo own [] l ≠ 0 then lstGo own [] l else if l ≠ [] ∧ l.getD 0 0 ≠ own.getD 0 0 then 9 else 0
def chkGo (L : List (Int × Int)) (N : Nat) : Nat → List (List Int) → Int
  | _, [] => 0
  | v, l :: ar => if lstErr l (ownL L (v : Int) N) ≠ 0 then lstErr l (ownL L (v : Int) N) else chkGo L N (v + 1) ar
theorem lstGo_zero {own : List Int} : ∀ {pre l : List Int}, lstGo own pre l = 0 → (∀ x, x ∈ l → x ∈ own) ∧ l.Nodup ∧ ∀ x, x ∈ l → x ∉ pre
  | _, [], _ => ⟨fun x hx => (by cases hx), List.nodup_nil, fun x hx => (by cases hx)⟩
  | pre, h :: t, e => by
    simp only [lstGo] at e
    split at e
    · rename_i h1
      split at e
      · omega
      · rename_i h2
        obtain ⟨q1, q2, q3⟩ := lstGo_zero e
        refine ⟨fun x hx => ?_, List.nodup_cons.2 ⟨fun hm => q3 h hm (by simp), q2⟩, fun x hx => ?_⟩
        · rcases List.mem_cons.1 hx with rfl | hx
          · exact h1
          · exact q1 x hx
        · rcases List.mem_cons.1 hx with rfl | hx
          · exact h2
          · intro hp; exact q3 x hx (by simp [hp])
    · omega
structure LOk (l own : List Int) : Prop where
  nd : l.Nodup
  sub : ∀ x, x ∈ l → x ∈ own
  sup : ∀ x, x ∈ own → x ∈ l
  len : l.length = own.length
  hd : l = [] ∨ l.getD 0 0 = own.getD 0 0
theorem sup_of {l own : List Int} (h1 : l.Nodup) (h2 : ∀ x, x ∈ l → x ∈ own) (h3 : l.length = own.length) : ∀ x, x ∈ own → x ∈ l := by
  intro x hx
  apply Classical.byContradiction
  intro hn
  have := List.Nodup.length_le_of_subset (l₁ := x :: l) (l₂ := own) (List.nodup_cons.2 ⟨hn, h1⟩) (fun y hy => by
    rcases List.mem_cons.1 hy with rfl | hy
    · exact hx
    · exact h2 y hy)
  simp at this; omega
theorem lstErr_zero {l own : List Int} (h : lstErr l own = 0) : LOk l own := by
  unfold lstErr at h
  split at h
  · omega
  · rename_i h1
    split at h
    · omega
    · rename_i h2
      split at h
      · omega
      · rename_i h3
        simp only [ne_eq, Decidable.not_not] at h1 h2
        obtain ⟨q1, q2, _⟩ := lstGo_zero h2
        refine ⟨q2, q1, sup_of q2 q1 h1, h1, ?_⟩
        by_cases e : l = []
        · exact .inl e
        · exact .inr (Classical.byContradiction fun hn => h3 ⟨e, hn⟩)
theorem chkGo_zero {L : List (Int × Int)} {N : Nat} : ∀ {v : Nat} {ar : List (List Int)}, chkGo L N v ar = 0 → ∀ i l, ar[i]? = some l → LOk l (ownL L ((v + i : Nat) : Int) N)
  | v, [], _, i, l, hl => by simp at hl
  | v, x :: ar, h, i, l, hl => by
    simp only [chkGo] at h
    split at h
    · omega
    · rename_i h1
      simp only [ne_eq, Decidable.not_not] at h1
      cases i with
      | zero => simp at hl; subst hl; exact lstErr_zero h1
      | succ i =>
        have := chkGo_zero h i l (by simpa using hl)
        rwa [show v + 1 + i = v + (i + 1) by omega] at this
def oppH (h : Nat) : Nat := h + 1 - 2 * (h % 2)
def nextI (l : List Int) (x : Int) : Int := l.getD ((l.idxOf x + 1) % l.length) 0
def nextR (L : List (Int × Int)) (ar : List (List Int)) (h : Nat) : Int := nextI (ar.getD (atL L h).toNat []) (h : Int)
def fR (L : List (Int × Int)) (ar : List (List Int)) (h : Nat) : Nat := (nextR L ar (oppH h)).toNat
theorem oppH_lt {m h : Nat} (hh : h < 2 * m) : oppH h < 2 * m := by unfold oppH; omega
theorem oppH_opp (h : Nat) : oppH (oppH h) = h := by unfold oppH; omega
theorem nodup_at {α : Type} {l : List α} (hn : l.Nodup) {i j : Nat} (hi : i < l.length) (hj : j < l.length) (e : l[i] = l[j]) : i = j := by
  rw [List.Nodup, List.pairwise_iff_getElem] at hn
  rcases Nat.lt_trichotomy i j with h | h | h
  · exact absurd e (hn i j hi hj h)
  · exact h
  · exact absurd e.symm (hn j i hj hi h)
theorem getD_idx {l : List Int} {x : Int} (hx : x ∈ l) : l.idxOf x < l.length ∧ l[l.idxOf x]? = some x := by
  have h := List.idxOf_lt_length_of_mem hx
  exact ⟨h, by rw [List.getElem?_eq_getElem h, List.getElem_idxOf h]⟩
theorem nextI_mem {l : List Int} {x : Int} (hx : x ∈ l) : nextI l x ∈ l := by
  have h := (getD_idx hx).1
  unfold nextI
  rw [List.getD_eq_getElem?_getD, List.getElem?_eq_getElem (Nat.mod_lt _ (by omega))]
  exact List.getElem_mem _
theorem nextI_inj {l : List Int} (hn : l.Nodup) {x y : Int} (hx : x ∈ l) (hy : y ∈ l) (e : nextI l x = nextI l y) : x = y := by
  obtain ⟨h1, h2⟩ := getD_idx hx
  obtain ⟨h3, h4⟩ := getD_idx hy
  have m1 : (l.idxOf x + 1) % l.length < l.length := Nat.mod_lt _ (by omega)
  have m2 : (l.idxOf y + 1) % l.length < l.length := Nat.mod_lt _ (by omega)
  unfold nextI at e
  rw [List.getD_eq_getElem?_getD, List.getElem?_eq_getElem m1, List.getD_eq_getElem?_getD, List.getElem?_eq_getElem m2] at e
  simp only [Option.getD_some] at e
  have e2 := nodup_at hn m1 m2 e
  have key : ∀ a b c : Nat, a < c → b < c → (a + 1) % c = (b + 1) % c → a = b := fun a b c ha hb hab => by
    by_cases q1 : a + 1 = c
    · by_cases q2 : b + 1 = c
      · omega
      · rw [q1, Nat.mod_self, Nat.mod_eq_of_lt (by omega)] at hab; omega
    · by_cases q2 : b + 1 = c
      · rw [q2, Nat.mod_self, Nat.mod_eq_of_lt (by omega)] at hab; omega
      · rw [Nat.mod_eq_of_lt (by omega), Nat.mod_eq_of_lt (by omega)] at hab; omega
  have e3 := key _ _ _ h1 h3 e2
  rw [← Option.some.injEq, ← h2, ← h4, e3]
end Go.Proofs.YtfkegnhpihoncaaGreat
