/- A part of the proof. -/
import Derived.Test.YtgklecfiflhjmaaPart16
import Derived.Test.YtgklecfiflhjmaaLayerC
set_option linter.all false
set_option maxHeartbeats 4000000
set_option maxRecDepth 100000
namespace Go.Proofs.Ytgklecfiflhjmaa
open Go.Sp
theorem getD_app {L : List (Nat × Nat)} {p : Nat × Nat} {e : Nat} (h : e < L.length) : (L ++ [p]).getD e (0, 0) = L.getD e (0, 0) := by
 rw [List.getD_eq_getElem?_getD, List.getD_eq_getElem?_getD, List.getElem?_append_left h]
theorem getD_last {L : List (Nat × Nat)} {p : Nat × Nat} : (L ++ [p]).getD L.length (0, 0) = p := by
 rw [List.getD_eq_getElem?_getD, List.getElem?_append_right (Nat.le_refl _), Nat.sub_self]; rfl
theorem atV_snoc (L : List (Nat × Nat)) (p : Nat × Nat) (v : Nat) : atV (L ++ [p]) v = if p.1 ≠ p.2 ∧ (p.1 = v ∨ p.2 = v) then atV L v ++ [L.length] else atV L v := by
 unfold atV
 rw [List.length_append, List.length_singleton, List.range_succ, List.filter_append]
 have h1 : (List.range L.length).filter (fun e => let p' := (L ++ [p]).getD e (0, 0); decide (p'.1 ≠ p'.2) && (decide (p'.1 = v) || decide (p'.2 = v))) = (List.range L.length).filter (fun e => let p' := L.getD e (0, 0); decide (p'.1 ≠ p'.2) && (decide (p'.1 = v) || decide (p'.2 = v))) :=
  List.filter_congr fun e he => by simp only; rw [getD_app (List.mem_range.1 he)]
 rw [h1]
 simp only [List.filter_cons, List.filter_nil, getD_last]
 by_cases hc : p.1 ≠ p.2 ∧ (p.1 = v ∨ p.2 = v)
 ·rw [if_pos hc, if_pos (by simpa using hc)]
 ·rw [if_neg hc, if_neg (by simpa using hc), List.append_nil]
theorem loopsB_snoc (L : List (Nat × Nat)) (p : Nat × Nat) : loopsB (L ++ [p]) = if p.1 = p.2 then loopsB L ++ [[L.length]] else loopsB L := by
 unfold loopsB
 rw [List.length_append, List.length_singleton, List.range_succ, List.filter_append, List.map_append]
 have h1 : (List.range L.length).filter (fun e => let p' := (L ++ [p]).getD e (0, 0); decide (p'.1 = p'.2)) = (List.range L.length).filter (fun e => let p' := L.getD e (0, 0); decide (p'.1 = p'.2)) :=
  List.filter_congr fun e he => by simp only; rw [getD_app (List.mem_range.1 he)]
 rw [h1]
 simp only [List.filter_cons, List.filter_nil, getD_last]
 by_cases hc : p.1 = p.2
 ·rw [if_pos hc, if_pos (by simpa using hc)]; rfl
 ·rw [if_neg hc, if_neg (by simpa using hc), List.map_nil, List.append_nil]
theorem loopsB_len (L : List (Nat × Nat)) : (loopsB L).length ≤ L.length := by
 unfold loopsB
 rw [List.length_map]
 exact Nat.le_trans (List.length_filter_le _ _) (by simp)
def ATf (L : List (Nat × Nat)) : List (List Int) := (List.range 12).map fun v => zI (atV L v)
theorem ATf_nil : ATf [] = List.replicate 12 [] := rfl
theorem ATf_len (L : List (Nat × Nat)) : (ATf L).length = 12 := by simp [ATf]
theorem ATf_get (L : List (Nat × Nat)) {v : Nat} (h : v < 12) : (ATf L)[v]? = some (zI (atV L v)) := by
 unfold ATf
 rw [List.getElem?_map, List.getElem?_range h]; rfl
theorem ATf_loop {L : List (Nat × Nat)} {p : Nat × Nat} (h : p.1 = p.2) : ATf (L ++ [p]) = ATf L := by
 unfold ATf
 congr 1
 funext v
 rw [atV_snoc, if_neg (fun hc => hc.1 h)]
theorem zI_snoc (T : List Nat) (x : Nat) : zI T ++ [(x : Int)] = zI (T ++ [x]) := by simp [zI]
theorem ATf_snoc {L : List (Nat × Nat)} {p : Nat × Nat} (h : p.1 ≠ p.2) : ((ATf L).set p.1 (zI (atV L p.1) ++ [(L.length : Int)])).set p.2 (zI (atV L p.2) ++ [(L.length : Int)]) = ATf (L ++ [p]) := by
 rw [zI_snoc, zI_snoc]
 refine List.ext_getElem? fun v => ?_
 by_cases hv : v < 12
 ·rw [ATf_get _ hv, atV_snoc]
  by_cases h2 : p.2 = v
  ·subst h2
   rw [List.getElem?_set_self (by rw [List.length_set, ATf_len]; exact hv), if_pos ⟨h, .inr rfl⟩]
  ·rw [List.getElem?_set_ne h2]
   by_cases h1 : p.1 = v
   ·subst h1
    rw [List.getElem?_set_self (by rw [ATf_len]; exact hv), if_pos ⟨h, .inl rfl⟩]
   ·rw [List.getElem?_set_ne h1, ATf_get _ hv, if_neg (fun hc => by rcases hc.2 with q | q <;> contradiction)]
 ·rw [List.getElem?_eq_none (by rw [List.length_set, List.length_set, ATf_len]; omega), List.getElem?_eq_none (by rw [ATf_len]; omega)]
theorem startB_ok (L : List (Nat × Nat)) : BOK L.length (startB L) := by
 refine ⟨rfl, rfl, rfl, fun x hx => ?_, fun x hx => ?_, fun e he => ?_⟩
 ·rw [(List.mem_replicate.1 hx).2]; exact Nat.zero_le _
 ·rw [(List.mem_replicate.1 hx).2]; exact Nat.zero_le _
 ·cases he
theorem allB_succ (L : List (Nat × Nat)) (i : Nat) : allB' L (i + 1) = if (allB' L i).seen.getD i 0 = 0 then visB L 12 i (-1) (allB' L i) else allB' L i := by
 unfold allB'
 rw [List.range_succ, List.foldl_append]; rfl
theorem allB_ok {L : List (Nat × Nat)} (hL : ∀ p, p ∈ L → p.1 < 12 ∧ p.2 < 12) : ∀ i, i ≤ 12 → BOK L.length (allB' L i) ∧ BLe L.length 0 L.length (allB' L i)
 | 0, _ => ⟨startB_ok L, by
   refine ⟨?_, ?_⟩
   ·show ((0 : Nat) : Int) ≤ 0 + L.length * ((0 : Nat) : Int); omega
   ·have := loopsB_len L
    show ((loopsB L).length : Int) ≤ L.length + L.length * ((0 : Nat) : Int); omega⟩
 | i + 1, hi => by
  obtain ⟨h1, h2⟩ := allB_ok hL i (by omega)
  rw [allB_succ]
  split
  ·rename_i h0
   have r := visB_ok hL 12 i (-1) _ 0 L.length (by omega) h0 (by have := h1.tm; omega) h1 h2
   exact ⟨r.ok, r.le⟩
  ·exact ⟨h1, h2⟩
theorem noB_partsR {es : List (MKey × MV)} {b : Blk} {ps : List (List Int)} : ∀ (i : Nat) blk, (Blk.map es :: b :: chJ ps)[i]? = some blk → i ≠ 1 → noB 1 blk
 | 0, blk, h, _ => by simp at h; subst h; trivial
 | 1, blk, h, hn => absurd rfl hn
 | i + 2, blk, h, _ => by
  have hm := List.mem_of_getElem? (l := chJ ps) (i := i) (a := blk) (by simpa using h)
  obtain ⟨r, _, rfl⟩ := List.mem_map.1 hm
  trivial
theorem cpartsR_ok (F : List Nat) (hF : FOk F) (n : Nat) (h1 : 1 ≤ n) (hn : n ≤ 12) :
  ACall Try.prog 59 [.t (.rptr (fT F)), tint n] (.t (.slice (llRows (partsV F n)))) := by
 have hroot := fun (v : Nat) (hv : v < 12) => croot_ok F hF v hv
 refine ACall.of_body Try.func59 rfl (by kernel_rfl) ?_
 simp only [entry, Try.ntmps59, tint]
 refine zU ?_
 repeat' (first|((first|(refine zT ?_;intro K' hK')|(refine zG ?_ ?_<;>(try refine zH ?_)<;>intro hguard<;>(try exact zX)<;>try intro K' hK'))<;>((try simp +contextual only [go_sem]);(repeat' first|(with_reducible refine hK' _ _ ?_;clear hK' K')|exact zY|with_reducible refine And.intro ?_ ?_|(with_reducible intro hpath;try exact zP)|(refine hK' _ _ ?_;clear hK' K')|fail);try refine zS ?_))|(refine zE ?_;refine hK _ _ ?_;clear hK K)|(refine zN ?_;try refine zS ?_)|refine zA ?_|(refine zB ?_;intro K hK)|(refine zC ?_ ?_<;>(try refine zH ?_)<;>intro hcond<;>try exact zX)|fail)
 have hFl := hF.len
 obtain ⟨x0, F0, hcons⟩ : ∃ x0 F0, fT F = x0 :: F0 := by
  cases hx : fT F with
  | nil => have := congrArg List.length hx; simp [fT, hFl] at this
  | cons a l => exact ⟨a, l, rfl⟩
 refine AWp.weak (Weak.asVecP 5 0 (c0 := x0) (cells := F0) rfl (by rw [← hcons]; rfl) (by simp)) ?_
 simp only [List.length_cons, List.length_nil, List.set_cons_succ, List.set_cons_zero, List.cons_append, List.nil_append, Nat.zero_add]
 refine AWp.loopS (α:=(Nat × Nat)) 43 (fun s=>[(0,.c (.rptr (fT F))),(5,.c (.vec 1 (rootsL F s.1).length s.2)),(6,.c (.map 0)),(10,.c (.int .i64 (n : Int))),(11,.c (.int .i64 (s.1 : Int)))]) (fun s=>.map (mR 0 (rootsL F s.1)) :: .box (chI 2 (partsV F s.1) ++ List.replicate (s.2 - (rootsL F s.1).length) .any) :: chJ (partsV F s.1)) (fun s=>s.1 ≤ n ∧ (rootsL F s.1).length ≤ s.2) (fun s=>n - s.1) ((0, 0)) (hk:=Weak.headL ((rootsL F ((0, 0)).1).length + 2) 43 [0, 5, 6, 10, 11] (by (repeat' (first | exact valsIn_nil _ | exact blksIn_nil _ | exact cellsIn_nil _ | refine And.intro ?_ ?_ | refine valsIn_cons ?_ ?_ | refine blksIn_cons ?_ ?_ | refine cellsIn_cons ?_ ?_ | exact True.intro | exact chI_in' (by rw [partsV_len]; omega) | exact chJ_in | exact fC_in | (show _ < _; omega) | exact cellsIn_map (fun _ => True.intro) | (intro c hc; cases hc; done) | (intro c hc; simp only [List.mem_cons, List.not_mem_nil, or_false] at hc; subst hc; exact True.intro) | (intro c hc; simp only [List.mem_cons, List.not_mem_nil, or_false] at hc; rcases hc with rfl | rfl <;> exact True.intro))))) (h0:=?_) (round:=fun s hI=>?_)
 ·exact ⟨Nat.zero_le _, Nat.le_refl _⟩
 ·obtain ⟨v, cap⟩ := s
  obtain ⟨hv, hcap⟩ := hI
  simp only at hv hcap ⊢
  by_cases hlt : v < n
  ·have hltI : (v : Int) < n := by omega
   have hR := hroot v (by omega)
   have hle := rootF_le hF (n := 12) (v := v) (by omega)
   have hkl := rootsL_len F v
   have hpl := partsV_len F v
   by_cases hrv : rootF F 12 v = v
   ·rw [hrv] at hR
    have hnew := parts_new hF (by omega) hrv
    have hsucc := rootsL_succ F v
    rw [if_pos hrv] at hsucc
    have hnm : ¬ v ∈ rootsL F v := fun h => by have := (rootsL_mem.1 h).1; omega
    have hput := mR_put hnm
    have hnd := rootsL_nodup F (v + 1)
    rw [hsucc] at hnd
    have hval := mR_val (k := (rootsL F v).length) (r := v) hnd (by simp) (.c (.int .i64 0))
    generalize rootsL F v = rs at *
    generalize partsV F v = ps at *
    repeat' (first|((with_reducible refine AWp.seq (AWp.of_reg (id:=9) (AReg.pre 1 (fun K hK=>?_))));simp only [List.take_succ_cons,List.take_zero])|((with_reducible refine AWp.of_reg (id:=9) (AReg.pre 1 (fun K hK=>?_)));simp only [List.take_succ_cons,List.take_zero])|((first|(refine zT ?_;intro K' hK')|(refine zG ?_ ?_<;>(try refine zH ?_)<;>intro hguard<;>(try exact zX)<;>try intro K' hK'))<;>((try simp +contextual only [go_sem, hltI, hput, toKey]);(repeat' first|(with_reducible refine hK' _ _ ?_;clear hK' K')|(with_reducible refine zK hR ?_;try simp +contextual only [go_sem, hltI, hput, toKey])|(refine ⟨_, klInt, rfl, klInts_ok, ?_⟩ ; simp +contextual only [go_sem, hltI, hput, toKey])|exact zY|with_reducible refine And.intro ?_ ?_|(with_reducible intro hpath;try exact zP)|(refine hK' _ _ ?_;clear hK' K')|fail);try refine zS ?_))|(refine zE ?_;refine hK _ _ ?_;clear hK K)|(refine zN ?_;try refine zS ?_)|refine zA ?_|(refine zB ?_;intro K hK)|(refine zC ?_ ?_<;>(try refine zH ?_)<;>intro hcond<;>try exact zX)|fail)
    simp only [List.drop_succ_cons, List.drop_zero]
    refine AReg.nilRow (e := 27) (z := .slice none 0 0) rfl rfl rfl (by simp only [ty]) (by simp only [ty]) (by simp only [ty]) rfl ?_
    refine AReg.grow (e := 27) (e2 := 27) (by' := 24) (z := .slice none 0 0) (j := 1) (tr := .raw (.slice none 0 0)) (tok := .exact) (used := chI 2 ps) rfl rfl rfl (by simp only [ty]) (by simp only [ty]) (by simp only [ty]) (by simp only [ty]) rfl (by simp only [ty]) rfl rfl (by rw [chI_len, hpl]) hcap (by simp) rfl (by omega) (by omega) noB_partsR chI_no (fun cap' hc' => ?_)
    refine AReg.rest (fun K hK => ?_)
    simp only [List.map_cons, List.map_nil, fgt, fgtC, noJ, noK, aput, List.set_cons_succ, List.set_cons_zero, cellOf, bne_self_eq_false, show ((0 : Nat) != 1) = true from rfl, if_true, Bool.false_eq_true, if_false]
    have w1 := chI_newAt 2 ps (List.replicate (cap' - (rs.length + 1)) .any)
    have w2 := chI_new 2 ps [(v : Int)] (List.replicate (cap' - (rs.length + 1)) .any)
    have w4 := chI_newGet 2 ps (List.replicate (cap' - (rs.length + 1)) .any)
    rw [hpl] at w1 w2 w4
    have w3 := chJ_snoc ps [(v : Int)]
    repeat' (first|(with_reducible refine AWp.seq_drawM mapInt klInt zeroI (by with_unfolding_all rfl) (by with_unfolding_all kernel_rfl) (fun K hK=>?_))|(with_reducible refine AWp.last_drawM mapInt klInt zeroI (by with_unfolding_all rfl) (by with_unfolding_all kernel_rfl) (fun K hK=>?_))|((first|(refine zT ?_;intro K' hK')|(refine zG ?_ ?_<;>(try refine zH ?_)<;>intro hguard<;>(try exact zX)<;>try intro K' hK'))<;>((try simp +contextual only [go_sem, hval, w1, w2, w4, chunks, List.range, List.range.loop, toKey, Int.toNat_natCast]);(repeat' first|(with_reducible refine hK' _ _ ?_;clear hK' K')|(exact rfl)|(exact klInts_ok)|(with_reducible exact iRows_k' (by assumption))|exact zY|with_reducible refine And.intro ?_ ?_|(with_reducible intro hpath;try exact zP)|(refine hK' _ _ ?_;clear hK' K')|fail);try refine zS ?_))|(refine zE ?_;refine hK _ _ ?_;clear hK K)|(refine zN ?_;try refine zS ?_)|refine zA ?_|(refine zB ?_;intro K hK)|(refine zC ?_ ?_<;>(try refine zH ?_)<;>intro hcond<;>try exact zX)|fail)
    ·rw [chI_len, hpl, List.length_replicate]; omega
    ·have hl : (rootsL F (v + 1)).length = rs.length + 1 := by rw [hsucc]; simp
     simp only [iRows, List.map_cons, List.map_nil] at w2
     rw [chJ_len, hpl, w2, ← hnew, ← hsucc, show chJ ps ++ [Blk.chain 1 1] = chJ (partsV F (v + 1)) from by rw [hnew, w3]; rfl]
     have ht2 : (chJ (partsV F (v + 1))).take (rs.length + 1) = chJ (partsV F (v + 1)) := chJ_take (by rw [partsV_len, hl]; exact Nat.le_refl _)
     refine ⟨(v + 1, cap'),Weak.headF ((rootsL F ((v + 1, cap')).1).length + 2) 43 [0, 5, 6, 10, 11] (zc @hl (zc @ht2 trivial)) (by (repeat' (first | exact valsIn_nil _ | exact blksIn_nil _ | exact cellsIn_nil _ | refine And.intro ?_ ?_ | refine valsIn_cons ?_ ?_ | refine blksIn_cons ?_ ?_ | refine cellsIn_cons ?_ ?_ | exact True.intro | exact chI_in' (by rw [partsV_len]; omega) | exact chJ_in | exact fC_in | (show _ < _; omega) | exact cellsIn_map (fun _ => True.intro) | (intro c hc; cases hc; done) | (intro c hc; simp only [List.mem_cons, List.not_mem_nil, or_false] at hc; subst hc; exact True.intro) | (intro c hc; simp only [List.mem_cons, List.not_mem_nil, or_false] at hc; rcases hc with rfl | rfl <;> exact True.intro)))),?_,?_⟩
     ·exact ⟨hlt, by rw [hl]; exact hc'⟩
     ·simp only; omega
   ·obtain ⟨r, hr⟩ : ∃ r, rootF F 12 v = r := ⟨_, rfl⟩
    have hrlt : r < v := by omega
    have hfix := root_fix hF (u := v) (by omega)
    rw [hr] at hfix
    have hrr := root_self hF (u := r) (by omega) hfix
    have hmem : r ∈ rootsL F v := rootsL_mem.2 ⟨hrlt, hrr⟩
    obtain ⟨k, hk, hkr⟩ := List.mem_iff_getElem.1 hmem
    have hk' : (rootsL F v)[k]? = some r := by rw [List.getElem?_eq_getElem hk, hkr]
    obtain ⟨e1, e2, e3⟩ := parts_old hrv hk' hr
    have hval := mR_val (rootsL_nodup F v) hk' (.c (.int .i64 0))
    rw [hr] at hR hrv
    have hrvI : ¬ ((r : Int) = v) := by omega
    have hplen : (partV F v r).length ≤ v := by
     unfold partV
     rw [List.length_map]
     exact Nat.le_trans (List.length_filter_le _ _) (by simp)
    generalize partV F v r = p at *
    have hkI : (k : Int) < (rootsL F v).length := by omega
    have g1 := chI_get' (b := 2) (List.replicate (cap - (rootsL F v).length) .any) e2
    have g2 := chI_at (b := 2) (List.replicate (cap - (rootsL F v).length) .any) e2
    have g3 := chJ_get e2
    have g4 := chI_put 2 k (partsV F v) (p ++ [(v : Int)]) (List.replicate (cap - (rootsL F v).length) .any) (by omega)
    have g5 := chJ_set k (partsV F v) (p ++ [(v : Int)]) (n := p.length + 1) (by simp)
    rw [← e3] at g4 g5
    have hkc : k + 1 ≤ (partsV F v).length + (cap - (rootsL F v).length) := by omega
    repeat' (first|(with_reducible refine AWp.seq_drawM mapInt klInt zeroI (by with_unfolding_all rfl) (by with_unfolding_all kernel_rfl) (fun K hK=>?_))|(with_reducible refine AWp.last_drawM mapInt klInt zeroI (by with_unfolding_all rfl) (by with_unfolding_all kernel_rfl) (fun K hK=>?_))|((first|(refine zT ?_;intro K' hK')|(refine zG ?_ ?_<;>(try refine zH ?_)<;>intro hguard<;>(try exact zX)<;>try intro K' hK'))<;>((try simp +contextual only [go_sem, hltI, hrvI, hkI, hval, g1, g2, g3, g4, g5, chI_len, chJ_len, hpl, hkc, iRows_len, iRows_snoc, chunks, List.range, List.range.loop, toKey, Int.toNat_natCast, List.length_replicate]);(repeat' first|(with_reducible refine hK' _ _ ?_;clear hK' K')|(with_reducible refine zK hR ?_;try simp +contextual only [go_sem, hltI, hrvI, hkI, hval, g1, g2, g3, g4, g5, chI_len, chJ_len, hpl, hkc, iRows_len, iRows_snoc, chunks, List.range, List.range.loop, toKey, Int.toNat_natCast, List.length_replicate])|(exact rfl)|(exact klInts_ok)|(with_reducible exact iRows_k' (by assumption))|exact zY|with_reducible refine And.intro ?_ ?_|(with_reducible intro hpath;try exact zP)|(refine hK' _ _ ?_;clear hK' K')|fail);try refine zS ?_))|(refine zE ?_;refine hK _ _ ?_;clear hK K)|(refine zN ?_;try refine zS ?_)|refine zA ?_|(refine zB ?_;intro K hK)|(refine zC ?_ ?_<;>(try refine zH ?_)<;>intro hcond<;>try exact zX)|fail)
    have ht2 : (chJ (partsV F (v + 1))).take (rootsL F v).length = chJ (partsV F (v + 1)) := chJ_take (by rw [partsV_len, e1]; exact Nat.le_refl _)
    refine ⟨(v + 1, cap),Weak.headF ((rootsL F ((v + 1, cap)).1).length + 2) 43 [0, 5, 6, 10, 11] (zc @e1 (zc @ht2 trivial)) (by (repeat' (first | exact valsIn_nil _ | exact blksIn_nil _ | exact cellsIn_nil _ | refine And.intro ?_ ?_ | refine valsIn_cons ?_ ?_ | refine blksIn_cons ?_ ?_ | refine cellsIn_cons ?_ ?_ | exact True.intro | exact chI_in' (by rw [partsV_len]; omega) | exact chJ_in | exact fC_in | (show _ < _; omega) | exact cellsIn_map (fun _ => True.intro) | (intro c hc; cases hc; done) | (intro c hc; simp only [List.mem_cons, List.not_mem_nil, or_false] at hc; subst hc; exact True.intro) | (intro c hc; simp only [List.mem_cons, List.not_mem_nil, or_false] at hc; rcases hc with rfl | rfl <;> exact True.intro)))),?_,?_⟩
    ·exact ⟨hlt, by rw [e1]; exact hcap⟩
    ·simp only; omega
  ·have ev : v = n := by omega
   subst ev
   have hnl : ¬ ((v : Int) < v) := by omega
   have hpos : 0 < (rootsL F v).length := List.length_pos_iff.2 fun h => by
    have h0 : 0 ∈ rootsL F v := rootsL_mem.2 ⟨by omega, by have := rootF_le hF (n := 12) (v := 0) (by omega); omega⟩
    rw [h] at h0; cases h0
   repeat' ((fail_if_success (with_reducible refine AWp.atSeq 12 ?_));(fail_if_success (with_reducible refine AWp.atLast 12 ?_));first|((first|(refine zT ?_;intro K' hK')|(refine zG ?_ ?_<;>(try refine zH ?_)<;>intro hguard<;>(try exact zX)<;>try intro K' hK'))<;>((try simp +contextual only [go_sem, hnl]);(repeat' first|(with_reducible refine hK' _ _ ?_;clear hK' K')|exact zY|with_reducible refine And.intro ?_ ?_|(with_reducible intro hpath;try exact zP)|(refine hK' _ _ ?_;clear hK' K')|fail);try refine zS ?_))|(refine zE ?_;refine hK _ _ ?_;clear hK K)|(refine zN ?_;try refine zS ?_)|refine zA ?_|(refine zB ?_;intro K hK)|(refine zC ?_ ?_<;>(try refine zH ?_)<;>intro hcond<;>try exact zX)|fail)
   refine AWp.vecData 5 1 2 ((partsV F v).map iRows) rfl rfl hpos hcap (by rw [List.length_map, partsV_len]) (by simp) ?_
   rw [chRows]
   simp only [List.set_cons_succ, List.set_cons_zero]
   refine AWp.weak (Weak.head2 (m := 0) (by first | omega | simp) ((fun t f => [f, f, f, f, f, t, f, f, f, f, f, f, f, f, f, f, f, f, f, f, f, f, f, f, f, f, f, f, f, f, f, f, f, f, f, f, f, f, f, f, f, f, f]) true false) rfl rfl (by (repeat' (first | exact valsIn_nil _ | exact blksIn_nil _ | exact cellsIn_nil _ | refine And.intro ?_ ?_ | refine valsIn_cons ?_ ?_ | refine blksIn_cons ?_ ?_ | refine cellsIn_cons ?_ ?_ | exact True.intro | exact chI_in' (by rw [partsV_len]; omega) | exact chJ_in | exact fC_in | (show _ < _; omega) | exact cellsIn_map (fun _ => True.intro) | (intro c hc; cases hc; done) | (intro c hc; simp only [List.mem_cons, List.not_mem_nil, or_false] at hc; subst hc; exact True.intro) | (intro c hc; simp only [List.mem_cons, List.not_mem_nil, or_false] at hc; rcases hc with rfl | rfl <;> exact True.intro))))) ?_
   simp only [mask, List.take_succ_cons, List.take_zero, List.set_cons_succ, List.set_cons_zero]
   repeat' (first|((first|(refine zT ?_;intro K' hK')|(refine zG ?_ ?_<;>(try refine zH ?_)<;>intro hguard<;>(try exact zX)<;>try intro K' hK'))<;>((try simp +contextual only [go_sem]);(repeat' first|(with_reducible refine hK' _ _ ?_;clear hK' K')|exact zY|with_reducible refine And.intro ?_ ?_|(with_reducible intro hpath;try exact zP)|(refine hK' _ _ ?_;clear hK' K')|fail);try refine zS ?_))|(refine zE ?_;refine hK _ _ ?_;clear hK K)|(refine zN ?_;try refine zS ?_)|refine zA ?_|(refine zB ?_;intro K hK)|(refine zC ?_ ?_<;>(try refine zH ?_)<;>intro hcond<;>try exact zX)|fail)
   simp [Rets, aret, Blk.cells, ty, Try.results59, ares, toT1, toT, borrow, borrow0, capCell, toTree0]
end Go.Proofs.Ytgklecfiflhjmaa
