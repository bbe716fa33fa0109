/- A part of the proof: contracts of functions of the program, and plain lemmas. -/
import Derived.Test.YtfkegnhpihoncaaGreatPart10
import Derived.Test.YtfkegnhpihoncaaGreatLayerB
import Derived.Test.YtfkegnhpihoncaaGreatLayerC
import Derived.Test.YtfkegnhpihoncaaGreatLayerA
set_option linter.all false
namespace Go.Proofs.YtfkegnhpihoncaaGreat
open Go.Sp
set_option linter.unusedSimpArgs false
set_option linter.unusedVariables false
set_option maxHeartbeats 4000000
set_option maxRecDepth 100000
theorem mapInt : tMap Tryz.prog 212 = some (3, 3) := by simp only [ty]
theorem zeroI : tZero Tryz.prog 3 = some (.int .i64 0) := by simp only [ty]
theorem partsV_len (F : List Nat) (v : Nat) : (partsV F v).length = (rootsL F v).length := by simp [partsV]
theorem chI_in' {m b : Nat} {ls : List (List Int)} {n : Nat} (h : b + ls.length ≤ m) : blkIn m (.box (chI b ls ++ List.replicate n .any)) := chC_in' (by simpa using h)
theorem chI_put (b i : Nat) (ls : List (List Int)) (l : List Int) (R : List ACell) (h : i < ls.length) : (chI b ls ++ R).set i (.slice (iRows l) (.chain (i + b))) = chI b (ls.set i l) ++ R := by
  rw [List.set_append_left _ _ (by rw [chI_len]; exact h), chI_set]
theorem chI_at {b i : Nat} {ls : List (List Int)} {l : List Int} (R : List ACell) (h : ls[i]? = some l) : (chI b ls ++ R).drop i = .slice (iRows l) (.chain (i + b)) :: (chI b ls ++ R).drop (i + 1) := by
  have hl := (List.getElem?_eq_some_iff.1 h).1
  rw [List.drop_append_of_le_length (by rw [chI_len]; omega), List.drop_append_of_le_length (by rw [chI_len]; omega), chI_drop h]; rfl
theorem chI_new (b : Nat) (ls : List (List Int)) (l : List Int) (R : List ACell) : (chI b ls ++ [ACell.nils] ++ R).set ls.length (.slice (iRows l) (.chain (ls.length + b))) = chI b (ls ++ [l]) ++ R := by
  rw [List.append_assoc, List.set_append_right _ _ (by rw [chI_len]; exact Nat.le_refl _), chI_len, Nat.sub_self]
  unfold chI
  rw [List.map_append, List.map_cons, List.map_nil, chC_snoc]
  simp
theorem chI_newAt (b : Nat) (ls : List (List Int)) (R : List ACell) : (chI b ls ++ [ACell.nils] ++ R).drop ls.length = .nils :: R := by
  rw [List.append_assoc, List.drop_append, chI_len, Nat.sub_self, List.drop_eq_nil_of_le (by rw [chI_len]; exact Nat.le_refl _)]; rfl
theorem chI_newGet (b : Nat) (ls : List (List Int)) (R : List ACell) : (chI b ls ++ [ACell.nils] ++ R)[ls.length]? = some .nils := by
  have := congrArg (·[0]?) (chI_newAt b ls R)
  simpa using this
theorem chI_get' {b i : Nat} {ls : List (List Int)} {l : List Int} (R : List ACell) (h : ls[i]? = some l) : (chI b ls ++ R)[i]? = some (.slice (iRows l) (.chain (i + b))) := by
  have hl := (List.getElem?_eq_some_iff.1 h).1
  rw [List.getElem?_append_left (by rw [chI_len]; exact hl)]
  exact chI_get h
theorem chJ_snoc (ls : List (List Int)) (l : List Int) : chJ (ls ++ [l]) = chJ ls ++ [.chain l.length 1] := by
  unfold chJ; rw [List.map_append, List.map_cons, List.map_nil, chB_snoc, iRows_len]
theorem chI_no {j b : Nat} {ls : List (List Int)} : ∀ c, c ∈ chI b ls → noJ j c = true := chC_no
@[simp] theorem chJ_parts (F : List Nat) (v : Nat) : (chJ (partsV F v)).take (rootsL F v).length = chJ (partsV F v) := chJ_take (by rw [partsV_len]; exact Nat.le_refl _)
theorem noB_parts {cs0 : List ACell} {F : List Nat} (h0 : ∀ c, c ∈ cs0 → noJ 3 c = true) {es : List (MKey × MV)} {b : Blk} {ps : List (List Int)} : ∀ (i : Nat) blk, (Blk.box cs0 :: .box (fC F) :: .map es :: b :: chJ ps)[i]? = some blk → i ≠ 3 → noB 3 blk
  | 0, blk, h, _ => by simp at h; subst h; exact h0
  | 1, blk, h, _ => by
    simp at h; subst h
    intro c hc
    obtain ⟨n, _, rfl⟩ := List.mem_map.1 hc
    rfl
  | 2, blk, h, _ => by simp at h; subst h; trivial
  | 3, blk, h, hn => absurd rfl hn
  | i + 4, blk, h, _ => by
    have hm := List.mem_of_getElem? (l := chJ ps) (i := i) (a := blk) (by simpa using h)
    obtain ⟨r, _, rfl⟩ := List.mem_map.1 hm
    trivial
theorem cparts_ok (F : List Nat) (hF : FOk F) (n : Nat) (h1 : 1 ≤ n) (hn : n ≤ 12) (cs0 : List ACell) (hcs : ∀ m, 2 ≤ m → blkIn m (.box cs0)) (hno : ∀ c, c ∈ cs0 → noJ 3 c = true) :
    ACallH Tryz.prog 174 [.box cs0, .box (fC F)] [.c (.ptr 1 0), .c (.int .i64 (n : Int))] [.box cs0, .box (fC F)] (.c (.slice (llRows (partsV F n)) .none)) := by
  have hroot := fun (v : Nat) (hv : v < 12) (H : List Blk) (hH : H[1]? = some (.box (fC F))) => croot_call F hF v hv (id := 1) hH
  refine ACallH.of_body Tryz.func174 rfl (by kernel_rfl) ?_
  simp only [entry, Tryz.ntmps174, List.length_cons, List.length_nil, Nat.reduceAdd, Nat.reduceSub, List.replicate_succ, List.replicate_zero, List.cons_append, List.nil_append]
  refine zR trivial trivial trivial ?_
  refine AWp.weak (Weak.asVec 5 1 rfl rfl (by simp)) ?_
  simp only [List.length_cons, List.length_nil, List.set_cons_succ, List.set_cons_zero, List.cons_append, List.nil_append, Nat.zero_add]
  refine AWp.loopS (α:=(Nat × Nat)) 43 (fun s=>[(0,.c (.ptr 1 0)),(5,.c (.vec 3 (rootsL F s.1).length s.2)),(6,.c (.map 2)),(10,.c (.int .i64 (n : Int))),(11,.c (.int .i64 (s.1 : Int)))]) (fun s=>.box cs0 :: .box (fC F) :: .map (mR 0 (rootsL F s.1)) :: .box (chI 4 (partsV F s.1) ++ List.replicate (s.2 - (rootsL F s.1).length) .any) :: chJ (partsV F s.1)) (fun s=>s.1 ≤ n ∧ (rootsL F s.1).length ≤ s.2) (fun s=>n - s.1) ((0, 0)) (hk:=Weak.headL ((rootsL F ((0, 0)).1).length + 4) 43 [0, 5, 6, 10, 11] (by (repeat' (first | exact valsIn_nil _ | exact blksIn_nil _ | exact cellsIn_nil _ | refine And.intro ?_ ?_ | refine valsIn_cons ?_ ?_ | refine blksIn_cons ?_ ?_ | refine cellsIn_cons ?_ ?_ | exact True.intro | exact chI_in' (by rw [partsV_len]; omega) | exact chJ_in | exact hcs _ (by omega) | exact fC_in | (show _ < _; omega) | exact cellsIn_map (fun _ => True.intro) | (intro c hc; cases hc; done) | (intro c hc; simp only [List.mem_cons, List.not_mem_nil, or_false] at hc; subst hc; exact True.intro) | (intro c hc; simp only [List.mem_cons, List.not_mem_nil, or_false] at hc; rcases hc with rfl | rfl <;> exact True.intro))))) (h0:=?_) (round:=fun s hI=>?_)
  · exact ⟨Nat.zero_le _, Nat.le_refl _⟩
  · obtain ⟨v, cap⟩ := s
    obtain ⟨hv, hcap⟩ := hI
    simp only at hv hcap ⊢
    by_cases hlt : v < n
    · have hltI : (v : Int) < n := by omega
      have hR := hroot v (by omega) _ (show (Blk.box cs0 :: .box (fC F) :: .map (mR 0 (rootsL F v)) :: .box (chI 4 (partsV F v) ++ List.replicate (cap - (rootsL F v).length) .any) :: chJ (partsV F v))[1]? = some (.box (fC F)) from rfl)
      have hle := rootF_le hF (n := 12) (v := v) (by omega)
      have hkl := rootsL_len F v
      have hpl := partsV_len F v
      by_cases hrv : rootF F 12 v = v
      · rw [hrv] at hR
        have hnew := parts_new hF (by omega) hrv
        have hsucc := rootsL_succ F v
        rw [if_pos hrv] at hsucc
        have hnm : ¬ v ∈ rootsL F v := fun h => by have := (rootsL_mem.1 h).1; omega
        have hput := mR_put hnm
        have hnd := rootsL_nodup F (v + 1)
        rw [hsucc] at hnd
        have hval := mR_val (k := (rootsL F v).length) (r := v) hnd (by simp) (.c (.int .i64 0))
        generalize rootsL F v = rs at *
        generalize partsV F v = ps at *
        repeat' (first|((with_reducible refine AWp.seq (AWp.of_reg (id:=9) (AReg.pre 1 (fun K hK=>?_))));simp only [List.take_succ_cons,List.take_zero])|((with_reducible refine AWp.of_reg (id:=9) (AReg.pre 1 (fun K hK=>?_)));simp only [List.take_succ_cons,List.take_zero])|((first|(refine zT ?_;intro K' hK')|(refine zG ?_ ?_<;>(try refine zH ?_)<;>intro hguard<;>(try exact zX)<;>try intro K' hK'))<;>((try simp +contextual only [go_sem, hltI, hput, toKey]);(repeat' first|(with_reducible refine hK' _ _ ?_;clear hK' K')|((with_reducible first|refine ⟨_,_,hR,?_⟩|refine ⟨_,hR,?_⟩);try simp +contextual only [go_sem, hltI, hput, toKey])|(refine ⟨_, klInt, rfl, klInts_ok, ?_⟩ ; simp +contextual only [go_sem, hltI, hput, toKey])|exact zY|with_reducible refine And.intro ?_ ?_|(with_reducible intro hpath;try exact zP)|(refine hK' _ _ ?_;clear hK' K')|fail);try refine zS ?_))|(refine zE ?_;refine hK _ _ ?_;clear hK K)|(refine zN ?_;try refine zS ?_)|refine zA ?_|(refine zB ?_;intro K hK)|(refine zC ?_ ?_<;>(try refine zH ?_)<;>intro hcond<;>try exact zX)|fail)
        simp only [List.drop_succ_cons, List.drop_zero]
        refine AReg.nilRow (e := 40) (z := .slice none 0 0) rfl rfl rfl (by simp only [ty]) (by simp only [ty]) (by simp only [ty]) rfl ?_
        refine AReg.grow (e := 40) (e2 := 40) (by' := 24) (z := .slice none 0 0) (j := 3) (tr := .raw (.slice none 0 0)) (tok := .exact) (used := chI 4 ps) rfl rfl rfl (by simp only [ty]) (by simp only [ty]) (by simp only [ty]) (by simp only [ty]) rfl (by simp only [ty]) rfl rfl (by rw [chI_len, hpl]) hcap (by simp) rfl (by omega) (by omega) (noB_parts hno) chI_no (fun cap' hc' => ?_)
        refine AReg.rest (fun K hK => ?_)
        simp only [List.map_cons, List.map_nil, fgt, fgtC, noJ, noK, aput, List.set_cons_succ, List.set_cons_zero, cellOf, bne_self_eq_false, show ((1 : Nat) != 3) = true from rfl, show ((2 : Nat) != 3) = true from rfl, if_true, Bool.false_eq_true, if_false]
        have w1 := chI_newAt 4 ps (List.replicate (cap' - (rs.length + 1)) .any)
        have w2 := chI_new 4 ps [(v : Int)] (List.replicate (cap' - (rs.length + 1)) .any)
        have w4 := chI_newGet 4 ps (List.replicate (cap' - (rs.length + 1)) .any)
        rw [hpl] at w1 w2 w4
        have w3 := chJ_snoc ps [(v : Int)]
        repeat' (first|(with_reducible refine AWp.seq_drawM mapInt klInt zeroI (by with_unfolding_all rfl) (by with_unfolding_all kernel_rfl) (fun K hK=>?_))|(with_reducible refine AWp.last_drawM mapInt klInt zeroI (by with_unfolding_all rfl) (by with_unfolding_all kernel_rfl) (fun K hK=>?_))|((first|(refine zT ?_;intro K' hK')|(refine zG ?_ ?_<;>(try refine zH ?_)<;>intro hguard<;>(try exact zX)<;>try intro K' hK'))<;>((try simp +contextual only [go_sem, hval, w1, w2, w4, chunks, List.range, List.range.loop, toKey, Int.toNat_natCast]);(repeat' first|(with_reducible refine hK' _ _ ?_;clear hK' K')|(exact rfl)|(exact klInts_ok)|(with_reducible exact iRows_k' (by assumption))|exact zY|with_reducible refine And.intro ?_ ?_|(with_reducible intro hpath;try exact zP)|(refine hK' _ _ ?_;clear hK' K')|fail);try refine zS ?_))|(refine zE ?_;refine hK _ _ ?_;clear hK K)|(refine zN ?_;try refine zS ?_)|refine zA ?_|(refine zB ?_;intro K hK)|(refine zC ?_ ?_<;>(try refine zH ?_)<;>intro hcond<;>try exact zX)|fail)
        · rw [chI_len, hpl, List.length_replicate]; omega
        · have hl : (rootsL F (v + 1)).length = rs.length + 1 := by rw [hsucc]; simp
          simp only [iRows, List.map_cons, List.map_nil] at w2
          rw [chJ_len, hpl, w2, ← hnew, ← hsucc, show chJ ps ++ [Blk.chain 1 1] = chJ (partsV F (v + 1)) from by rw [hnew, w3]; rfl]
          have ht2 : (chJ (partsV F (v + 1))).take (rs.length + 1) = chJ (partsV F (v + 1)) := chJ_take (by rw [partsV_len, hl]; exact Nat.le_refl _)
          refine ⟨(v + 1, cap'),Weak.headF ((rootsL F ((v + 1, cap')).1).length + 4) 43 [0, 5, 6, 10, 11] (zc @hl (zc @ht2 trivial)) (by (repeat' (first | exact valsIn_nil _ | exact blksIn_nil _ | exact cellsIn_nil _ | refine And.intro ?_ ?_ | refine valsIn_cons ?_ ?_ | refine blksIn_cons ?_ ?_ | refine cellsIn_cons ?_ ?_ | exact True.intro | exact chI_in' (by rw [partsV_len]; omega) | exact chJ_in | exact hcs _ (by omega) | exact fC_in | (show _ < _; omega) | exact cellsIn_map (fun _ => True.intro) | (intro c hc; cases hc; done) | (intro c hc; simp only [List.mem_cons, List.not_mem_nil, or_false] at hc; subst hc; exact True.intro) | (intro c hc; simp only [List.mem_cons, List.not_mem_nil, or_false] at hc; rcases hc with rfl | rfl <;> exact True.intro)))),?_,?_⟩
          · exact ⟨hlt, by rw [hl]; exact hc'⟩
          · simp only; omega
      · obtain ⟨r, hr⟩ : ∃ r, rootF F 12 v = r := ⟨_, rfl⟩
        have hrlt : r < v := by omega
        have hfix := root_fix hF (u := v) (by omega)
        rw [hr] at hfix
        have hrr := root_self hF (u := r) (by omega) hfix
        have hmem : r ∈ rootsL F v := rootsL_mem.2 ⟨hrlt, hrr⟩
        obtain ⟨k, hk, hkr⟩ := List.mem_iff_getElem.1 hmem
        have hk' : (rootsL F v)[k]? = some r := by rw [List.getElem?_eq_getElem hk, hkr]
        obtain ⟨e1, e2, e3⟩ := parts_old hrv hk' hr
        have hval := mR_val (rootsL_nodup F v) hk' (.c (.int .i64 0))
        rw [hr] at hR hrv
        have hrvI : ¬ ((r : Int) = v) := by omega
        have hplen : (partV F v r).length ≤ v := by
          unfold partV
          rw [List.length_map]
          exact Nat.le_trans (List.length_filter_le _ _) (by simp)
        generalize partV F v r = p at *
        have hkI : (k : Int) < (rootsL F v).length := by omega
        have g1 := chI_get' (b := 4) (List.replicate (cap - (rootsL F v).length) .any) e2
        have g2 := chI_at (b := 4) (List.replicate (cap - (rootsL F v).length) .any) e2
        have g3 := chJ_get e2
        have g4 := chI_put 4 k (partsV F v) (p ++ [(v : Int)]) (List.replicate (cap - (rootsL F v).length) .any) (by omega)
        have g5 := chJ_set k (partsV F v) (p ++ [(v : Int)]) (n := p.length + 1) (by simp)
        rw [← e3] at g4 g5
        have hkc : k + 1 ≤ (partsV F v).length + (cap - (rootsL F v).length) := by omega
        repeat' (first|(with_reducible refine AWp.seq_drawM mapInt klInt zeroI (by with_unfolding_all rfl) (by with_unfolding_all kernel_rfl) (fun K hK=>?_))|(with_reducible refine AWp.last_drawM mapInt klInt zeroI (by with_unfolding_all rfl) (by with_unfolding_all kernel_rfl) (fun K hK=>?_))|((first|(refine zT ?_;intro K' hK')|(refine zG ?_ ?_<;>(try refine zH ?_)<;>intro hguard<;>(try exact zX)<;>try intro K' hK'))<;>((try simp +contextual only [go_sem, hltI, hrvI, hkI, hval, g1, g2, g3, g4, g5, chI_len, chJ_len, hpl, hkc, iRows_len, iRows_snoc, chunks, List.range, List.range.loop, toKey, Int.toNat_natCast, List.length_replicate]);(repeat' first|(with_reducible refine hK' _ _ ?_;clear hK' K')|((with_reducible first|refine ⟨_,_,hR,?_⟩|refine ⟨_,hR,?_⟩);try simp +contextual only [go_sem, hltI, hrvI, hkI, hval, g1, g2, g3, g4, g5, chI_len, chJ_len, hpl, hkc, iRows_len, iRows_snoc, chunks, List.range, List.range.loop, toKey, Int.toNat_natCast, List.length_replicate])|(exact rfl)|(exact klInts_ok)|(with_reducible exact iRows_k' (by assumption))|exact zY|with_reducible refine And.intro ?_ ?_|(with_reducible intro hpath;try exact zP)|(refine hK' _ _ ?_;clear hK' K')|fail);try refine zS ?_))|(refine zE ?_;refine hK _ _ ?_;clear hK K)|(refine zN ?_;try refine zS ?_)|refine zA ?_|(refine zB ?_;intro K hK)|(refine zC ?_ ?_<;>(try refine zH ?_)<;>intro hcond<;>try exact zX)|fail)
        have ht2 : (chJ (partsV F (v + 1))).take (rootsL F v).length = chJ (partsV F (v + 1)) := chJ_take (by rw [partsV_len, e1]; exact Nat.le_refl _)
        refine ⟨(v + 1, cap),Weak.headF ((rootsL F ((v + 1, cap)).1).length + 4) 43 [0, 5, 6, 10, 11] (zc @e1 (zc @ht2 trivial)) (by (repeat' (first | exact valsIn_nil _ | exact blksIn_nil _ | exact cellsIn_nil _ | refine And.intro ?_ ?_ | refine valsIn_cons ?_ ?_ | refine blksIn_cons ?_ ?_ | refine cellsIn_cons ?_ ?_ | exact True.intro | exact chI_in' (by rw [partsV_len]; omega) | exact chJ_in | exact hcs _ (by omega) | exact fC_in | (show _ < _; omega) | exact cellsIn_map (fun _ => True.intro) | (intro c hc; cases hc; done) | (intro c hc; simp only [List.mem_cons, List.not_mem_nil, or_false] at hc; subst hc; exact True.intro) | (intro c hc; simp only [List.mem_cons, List.not_mem_nil, or_false] at hc; rcases hc with rfl | rfl <;> exact True.intro)))),?_,?_⟩
        · exact ⟨hlt, by rw [e1]; exact hcap⟩
        · simp only; omega
    · have ev : v = n := by omega
      subst ev
      have hnl : ¬ ((v : Int) < v) := by omega
      have hpos : 0 < (rootsL F v).length := List.length_pos_iff.2 fun h => by
        have h0 : 0 ∈ rootsL F v := rootsL_mem.2 ⟨by omega, by have := rootF_le hF (n := 12) (v := 0) (by omega); omega⟩
        rw [h] at h0; cases h0
      repeat' ((fail_if_success (with_reducible refine AWp.atSeq 12 ?_));(fail_if_success (with_reducible refine AWp.atLast 12 ?_));first|((first|(refine zT ?_;intro K' hK')|(refine zG ?_ ?_<;>(try refine zH ?_)<;>intro hguard<;>(try exact zX)<;>try intro K' hK'))<;>((try simp +contextual only [go_sem, hnl]);(repeat' first|(with_reducible refine hK' _ _ ?_;clear hK' K')|exact zY|with_reducible refine And.intro ?_ ?_|(with_reducible intro hpath;try exact zP)|(refine hK' _ _ ?_;clear hK' K')|fail);try refine zS ?_))|(refine zE ?_;refine hK _ _ ?_;clear hK K)|(refine zN ?_;try refine zS ?_)|refine zA ?_|(refine zB ?_;intro K hK)|(refine zC ?_ ?_<;>(try refine zH ?_)<;>intro hcond<;>try exact zX)|fail)
      refine AWp.vecData 5 3 4 ((partsV F v).map iRows) rfl rfl hpos hcap (by rw [List.length_map, partsV_len]) (by simp) ?_
      rw [chRows]
      simp only [List.set_cons_succ, List.set_cons_zero]
      refine AWp.weak (Weak.head2 (m := 2) (by first | omega | simp) ((fun t f => [f, f, f, f, f, t, f, f, f, f, f, f, f, f, f, f, f, f, f, f, f, f, f, f, f, f, f, f, f, f, f, f, f, f, f, f, f, f, f, f, f, f, f]) true false) rfl rfl (by (repeat' (first | exact valsIn_nil _ | exact blksIn_nil _ | exact cellsIn_nil _ | refine And.intro ?_ ?_ | refine valsIn_cons ?_ ?_ | refine blksIn_cons ?_ ?_ | refine cellsIn_cons ?_ ?_ | exact True.intro | exact chI_in' (by rw [partsV_len]; omega) | exact chJ_in | exact hcs _ (by omega) | exact fC_in | (show _ < _; omega) | exact cellsIn_map (fun _ => True.intro) | (intro c hc; cases hc; done) | (intro c hc; simp only [List.mem_cons, List.not_mem_nil, or_false] at hc; subst hc; exact True.intro) | (intro c hc; simp only [List.mem_cons, List.not_mem_nil, or_false] at hc; rcases hc with rfl | rfl <;> exact True.intro))))) ?_
      simp only [mask, List.take_succ_cons, List.take_zero, List.set_cons_succ, List.set_cons_zero]
      refine zR trivial trivial trivial ?_
      simp [RetsH, aretH, ares, noTup, Tryz.results174]
end Go.Proofs.YtfkegnhpihoncaaGreat
set_option linter.all false
namespace Go.Proofs.YtfkegnhpihoncaaGreat
set_option linter.unusedSimpArgs false
set_option linter.unusedVariables false
structure PermN (N : Nat) (f : Nat → Nat) : Prop where
  lt : ∀ x, x < N → f x < N
  inj : ∀ x y, x < N → y < N → f x = f y → x = y
def it (f : Nat → Nat) : Nat → Nat → Nat
  | 0, x => x
  | k + 1, x => f (it f k x)
theorem it_add (f : Nat → Nat) (a b x : Nat) : it f (a + b) x = it f a (it f b x) := by
  induction a with
  | zero => rw [Nat.zero_add]; rfl
  | succ a ih => rw [show a + 1 + b = (a + b) + 1 by omega]; simp only [it, ih]
section
variable {N : Nat} {f : Nat → Nat}
theorem PermN.it_lt (h : PermN N f) {x : Nat} (hx : x < N) (k : Nat) : it f k x < N := by
  induction k with
  | zero => exact hx
  | succ k ih => exact h.lt _ ih
theorem PermN.it_inj (h : PermN N f) {x y : Nat} (hx : x < N) (hy : y < N) (k : Nat) (e : it f k x = it f k y) : x = y := by
  induction k with
  | zero => exact e
  | succ k ih => exact ih (h.inj _ _ (h.it_lt hx k) (h.it_lt hy k) e)
theorem PermN.period (h : PermN N f) {x : Nat} (hx : x < N) : ∃ p, 1 ≤ p ∧ p ≤ N ∧ it f p x = x := by
  apply Classical.byContradiction
  intro hc
  have hne : ∀ i j : Nat, i < j → j ≤ N → it f i x ≠ it f j x := fun i j hij hj e => by
    refine hc ⟨j - i, by omega, by omega, ?_⟩
    have e2 : it f j x = it f i (it f (j - i) x) := by rw [← it_add]; congr 1; omega
    rw [e2] at e
    exact (h.it_inj hx (h.it_lt hx _) i e).symm
  have hnd : ((List.range (N + 1)).map fun k => it f k x).Nodup := by
    rw [List.Nodup, List.pairwise_map]
    exact List.pairwise_lt_range.imp_of_mem fun {a b} ha hb hab => hne a b hab (by have := List.mem_range.1 hb; omega)
  have hle := List.Nodup.length_le_of_subset hnd (l₂ := List.range N) (fun y hy => by
    obtain ⟨k, _, rfl⟩ := List.mem_map.1 hy
    exact List.mem_range.2 (h.it_lt hx k))
  simp at hle
  omega
def orbGo (f : Nat → Nat) (h : Nat) : Nat → Nat → List Nat
  | 0, _ => []
  | n + 1, x => if x = h then [] else x :: orbGo f h n (f x)
def faceF (f : Nat → Nat) (N h : Nat) : List Nat := h :: orbGo f h N (f h)
theorem orbGo_eq (f : Nat → Nat) (h : Nat) : ∀ (n k p : Nat), k ≤ p → p ≤ k + n → it f p h = h → (∀ i, k ≤ i → i < p → it f i h ≠ h) → orbGo f h n (it f k h) = (List.range (p - k)).map fun i => it f (k + i) h := by
  intro n
  induction n with
  | zero =>
    intro k p h1 h2 _ _
    rw [show p - k = 0 by omega]; rfl
  | succ n ih =>
    intro k p h1 h2 h3 h4
    by_cases e : k = p
    · subst e
      rw [Nat.sub_self]
      simp only [orbGo, h3, if_true, List.range_zero, List.map_nil]
    · have hk := h4 k (Nat.le_refl _) (by omega)
      simp only [orbGo, if_neg hk]
      have := ih (k + 1) p (by omega) (by omega) h3 fun i hi => h4 i (by omega)
      have e1 : f (it f k h) = it f (k + 1) h := rfl
      rw [e1, this, show p - k = (p - (k + 1)) + 1 by omega, List.range_succ_eq_map]
      simp only [List.map_cons, Nat.add_zero, List.map_map]
      congr 1
      refine List.map_congr_left fun i _ => ?_
      simp only [Function.comp]
      rw [show k + 1 + i = k + Nat.succ i by omega]
theorem least_period {f : Nat → Nat} {h : Nat} : ∀ p : Nat, 1 ≤ p → it f p h = h → ∃ q, 1 ≤ q ∧ q ≤ p ∧ it f q h = h ∧ ∀ i, 1 ≤ i → i < q → it f i h ≠ h := by
  intro p
  induction p using Nat.strongRecOn with
  | _ p ih =>
    intro h1 h2
    by_cases hx : ∃ i, 1 ≤ i ∧ i < p ∧ it f i h = h
    · obtain ⟨i, h3, h4, h5⟩ := hx
      obtain ⟨q, q1, q2, q3⟩ := ih i h4 h3 h5
      exact ⟨q, q1, by omega, q3⟩
    · exact ⟨p, h1, Nat.le_refl _, h2, fun i h3 h4 h5 => hx ⟨i, h3, h4, h5⟩⟩
theorem face_spec (hp : PermN N f) {h : Nat} (hh : h < N) : ∃ p, 1 ≤ p ∧ p ≤ N ∧ it f p h = h ∧ (∀ i, 1 ≤ i → i < p → it f i h ≠ h) ∧ faceF f N h = (List.range p).map fun i => it f i h := by
  obtain ⟨p0, h1, h2, h3⟩ := hp.period hh
  obtain ⟨p, q1, q2, q3, q4⟩ := least_period p0 h1 h3
  refine ⟨p, q1, by omega, q3, q4, ?_⟩
  have := orbGo_eq f h N 1 p q1 (by omega) q3 fun i hi => q4 i hi
  unfold faceF
  have e1 : f h = it f 1 h := rfl
  rw [e1, this]
  obtain ⟨m, rfl⟩ : ∃ m, p = m + 1 := ⟨p - 1, by omega⟩
  rw [Nat.add_sub_cancel, List.range_succ_eq_map]
  simp only [List.map_cons, List.map_map]
  congr 1
  refine List.map_congr_left fun i _ => ?_
  simp only [Function.comp]
  rw [show 1 + i = Nat.succ i by omega]
theorem it_mod {p h : Nat} (hp : 1 ≤ p) (e : it f p h = h) (i : Nat) : it f i h = it f (i % p) h := by
  have hm : ∀ k, it f (k * p) h = h := fun k => by
    induction k with
    | zero => rw [Nat.zero_mul]; rfl
    | succ k ih => rw [Nat.succ_mul, it_add, e, ih]
  have := Nat.div_add_mod i p
  calc it f i h = it f (i % p + (i / p) * p) h := by rw [Nat.mul_comm, Nat.add_comm, this]
    _ = it f (i % p) h := by rw [it_add, hm]
theorem face_mem (hp : PermN N f) {h : Nat} (hh : h < N) {y : Nat} : y ∈ faceF f N h ↔ ∃ i, y = it f i h := by
  obtain ⟨p, h1, h2, h3, h4, h5⟩ := face_spec hp hh
  rw [h5]
  constructor
  · intro hy
    obtain ⟨i, _, rfl⟩ := List.mem_map.1 hy
    exact ⟨i, rfl⟩
  · rintro ⟨i, rfl⟩
    rw [it_mod h1 h3 i]
    exact List.mem_map.2 ⟨i % p, List.mem_range.2 (Nat.mod_lt _ (by omega)), rfl⟩
theorem face_lt (hp : PermN N f) {h : Nat} (hh : h < N) {y : Nat} (hy : y ∈ faceF f N h) : y < N := by
  obtain ⟨i, rfl⟩ := (face_mem hp hh).1 hy
  exact hp.it_lt hh i
theorem face_self (f : Nat → Nat) (N h : Nat) : h ∈ faceF f N h := by simp [faceF]
theorem face_symm (hp : PermN N f) {h y : Nat} (hh : h < N) (hy : y ∈ faceF f N h) : h ∈ faceF f N y := by
  have hyl := face_lt hp hh hy
  obtain ⟨i, rfl⟩ := (face_mem hp hh).1 hy
  obtain ⟨p, h1, h2, h3, h4, h5⟩ := face_spec hp hh
  refine (face_mem hp hyl).2 ⟨p - i % p, ?_⟩
  rw [it_mod h1 h3 i, ← it_add, show p - i % p + i % p = p by have := Nat.mod_lt i (show p > 0 by omega); omega, h3]
theorem face_trans (hp : PermN N f) {h y z : Nat} (hh : h < N) (hy : y ∈ faceF f N h) (hz : z ∈ faceF f N y) : z ∈ faceF f N h := by
  have hyl := face_lt hp hh hy
  obtain ⟨i, rfl⟩ := (face_mem hp hh).1 hy
  obtain ⟨j, rfl⟩ := (face_mem hp hyl).1 hz
  exact (face_mem hp hh).2 ⟨j + i, by rw [it_add]⟩
theorem face_len (hp : PermN N f) {h : Nat} (hh : h < N) : (faceF f N h).length ≤ N := by
  obtain ⟨p, h1, h2, h3, h4, h5⟩ := face_spec hp hh
  rw [h5]; simpa using h2
def leadB (f : Nat → Nat) (N h : Nat) : Bool := (faceF f N h).all fun y => decide (h ≤ y)
def leadsL (f : Nat → Nat) (N k : Nat) : List Nat := (List.range k).filter (leadB f N)
def facesN (f : Nat → Nat) (N k : Nat) : List (List Nat) := (leadsL f N k).map (faceF f N)
def ofN (f : Nat → Nat) (N k x : Nat) : Int :=
  match (facesN f N k).findIdx? (fun l => decide (x ∈ l)) with
  | some i => i
  | none => -1
theorem leadB_iff {h : Nat} : leadB f N h = true ↔ ∀ y, y ∈ faceF f N h → h ≤ y := by simp [leadB]
theorem leadsL_mem {k h : Nat} : h ∈ leadsL f N k ↔ h < k ∧ leadB f N h = true := by simp [leadsL]
theorem leadsL_succ (k : Nat) : leadsL f N (k + 1) = if leadB f N k = true then leadsL f N k ++ [k] else leadsL f N k := by
  unfold leadsL
  rw [List.range_succ, List.filter_append]
  cases h : leadB f N k <;> simp [h]
theorem facesN_succ (k : Nat) : facesN f N (k + 1) = if leadB f N k = true then facesN f N k ++ [faceF f N k] else facesN f N k := by
  unfold facesN
  rw [leadsL_succ]
  cases h : leadB f N k <;> simp
theorem least_mem {l : List Nat} (h : l ≠ []) : ∃ m, m ∈ l ∧ ∀ y, y ∈ l → m ≤ y := by
  induction l with
  | nil => exact absurd rfl h
  | cons x l ih =>
    by_cases e : l = []
    · subst e; exact ⟨x, by simp, fun y hy => by simp at hy; omega⟩
    · obtain ⟨m, h1, h2⟩ := ih e
      by_cases hx : x ≤ m
      · exact ⟨x, by simp, fun y hy => by
          rcases List.mem_cons.1 hy with rfl | hy
          · exact Nat.le_refl _
          · exact Nat.le_trans hx (h2 y hy)⟩
      · exact ⟨m, by simp [h1], fun y hy => by
          rcases List.mem_cons.1 hy with rfl | hy
          · omega
          · exact h2 y hy⟩
theorem lead_of (hp : PermN N f) {h : Nat} (hh : h < N) : ∃ m, m ≤ h ∧ leadB f N m = true ∧ h ∈ faceF f N m ∧ (leadB f N h = false → m < h) := by
  obtain ⟨m, h1, h2⟩ := least_mem (l := faceF f N h) (by simp [faceF])
  have hml := face_lt hp hh h1
  have hs := face_symm hp hh h1
  refine ⟨m, h2 h (face_self f N h), leadB_iff.2 fun y hy => h2 y (face_trans hp hh h1 hy), hs, fun hb => ?_⟩
  rcases Nat.lt_or_eq_of_le (h2 h (face_self f N h)) with h3 | h3
  · exact h3
  · subst h3
    rw [leadB_iff.2 h2] at hb; cases hb
theorem lead_unique (hp : PermN N f) {a b x : Nat} (ha : a < N) (hb : b < N) (la : leadB f N a = true) (lb : leadB f N b = true) (xa : x ∈ faceF f N a) (xb : x ∈ faceF f N b) : a = b := by
  have h1 : b ∈ faceF f N a := face_trans hp ha xa (face_symm hp hb xb)
  have h2 : a ∈ faceF f N b := face_symm hp ha h1
  have := leadB_iff.1 la b h1
  have := leadB_iff.1 lb a h2
  omega
theorem ofN_neg (hp : PermN N f) {k : Nat} (hk : k < N) : ofN f N k k < 0 ↔ leadB f N k = true := by
  unfold ofN
  constructor
  · intro h
    cases hb : leadB f N k with
    | true => rfl
    | false =>
      obtain ⟨m, h1, h2, h3, h4⟩ := lead_of hp hk
      have hm := h4 hb
      cases hx : (facesN f N k).findIdx? (fun l => decide (k ∈ l)) with
      | some i => rw [hx] at h; simp only at h; omega
      | none =>
        exfalso
        rw [List.findIdx?_eq_none_iff] at hx
        have := hx (faceF f N m) (List.mem_map.2 ⟨m, leadsL_mem.2 ⟨hm, h2⟩, rfl⟩)
        simp [h3] at this
  · intro hb
    cases hx : (facesN f N k).findIdx? (fun l => decide (k ∈ l)) with
    | none => simp
    | some i =>
      exfalso
      obtain ⟨hi, hd, _⟩ := List.findIdx?_eq_some_iff_getElem.1 hx
      have hmem : (facesN f N k)[i] ∈ facesN f N k := List.getElem_mem hi
      obtain ⟨a, ha, e⟩ := List.mem_map.1 hmem
      obtain ⟨h1, h2⟩ := leadsL_mem.1 ha
      have hka : k ∈ faceF f N a := by rw [e]; simpa using hd
      have := lead_unique hp (by omega) hk h2 hb hka (face_self f N k)
      omega
theorem ofN_succ (hp : PermN N f) {k : Nat} (hk : k < N) (hb : leadB f N k = true) {x : Nat} : ofN f N (k + 1) x = if x ∈ faceF f N k then ((facesN f N k).length : Int) else ofN f N k x := by
  unfold ofN
  rw [facesN_succ, if_pos hb, List.findIdx?_append]
  by_cases hx : x ∈ faceF f N k
  · rw [if_pos hx]
    have hn : (facesN f N k).findIdx? (fun l => decide (x ∈ l)) = none := by
      rw [List.findIdx?_eq_none_iff]
      intro l hl
      obtain ⟨a, ha, rfl⟩ := List.mem_map.1 hl
      obtain ⟨h1, h2⟩ := leadsL_mem.1 ha
      rw [decide_eq_false_iff_not]
      intro hxa
      have := lead_unique hp (by omega) hk h2 hb hxa hx
      omega
    rw [hn]
    simp [List.findIdx?_cons, hx]
  · rw [if_neg hx]
    cases hc : (facesN f N k).findIdx? (fun l => decide (x ∈ l)) with
    | some i => simp
    | none => simp [List.findIdx?_cons, hx]
theorem ofN_same {k : Nat} (hb : leadB f N k = false) {x : Nat} : ofN f N (k + 1) x = ofN f N k x := by
  unfold ofN; rw [facesN_succ, hb]; simp
end
end Go.Proofs.YtfkegnhpihoncaaGreat
