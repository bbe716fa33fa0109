/- A part of the proof: contracts of functions of the program, and plain lemmas. -/
import Derived.Test.YtfkegnhpihoncaaGreatPart03
import Derived.Test.YtfkegnhpihoncaaGreatPart02
import Derived.Test.YtfkegnhpihoncaaGreatLayerC
import Derived.Test.YtfkegnhpihoncaaGreatLayerB
import Derived.Test.YtfkegnhpihoncaaGreatLayerA
set_option linter.all false
namespace Go.Proofs.YtfkegnhpihoncaaGreat
open Go.Sp
set_option linter.unusedSimpArgs false
set_option linter.unusedVariables false
def rootsL (F : List Nat) (v : Nat) : List Nat := (List.range v).filter fun u => decide (rootF F 12 u = u)
def partV (F : List Nat) (v r : Nat) : List Int := ((List.range v).filter fun u => decide (rootF F 12 u = r)).map fun u : Nat => (u : Int)
def partsV (F : List Nat) (v : Nat) : List (List Int) := (rootsL F v).map (partV F v)
theorem rootsL_nodup (F : List Nat) (v : Nat) : (rootsL F v).Nodup := List.Nodup.sublist List.filter_sublist List.nodup_range
theorem rootsL_mem {F : List Nat} {v u : Nat} : u ∈ rootsL F v ↔ u < v ∧ rootF F 12 u = u := by simp [rootsL]
theorem rootsL_succ (F : List Nat) (v : Nat) : rootsL F (v + 1) = if rootF F 12 v = v then rootsL F v ++ [v] else rootsL F v := by
  unfold rootsL
  rw [List.range_succ, List.filter_append]
  by_cases h : rootF F 12 v = v <;> simp [h]
theorem rootsL_len (F : List Nat) (v : Nat) : (rootsL F v).length ≤ v := by
  unfold rootsL
  exact Nat.le_trans (List.length_filter_le _ _) (by simp)
theorem partV_succ (F : List Nat) (v r : Nat) : partV F (v + 1) r = if rootF F 12 v = r then partV F v r ++ [(v : Int)] else partV F v r := by
  unfold partV
  rw [List.range_succ, List.filter_append]
  by_cases h : rootF F 12 v = r <;> simp [h]
theorem parts_new {F : List Nat} (hF : FOk F) {v : Nat} (hv : v < 12) (h : rootF F 12 v = v) : partsV F (v + 1) = partsV F v ++ [[(v : Int)]] := by
  unfold partsV
  rw [rootsL_succ, if_pos h, List.map_append]
  congr 1
  · refine List.map_congr_left fun r hr => ?_
    have := (rootsL_mem.1 hr).1
    rw [partV_succ, if_neg (by omega)]
  · simp only [List.map_cons, List.map_nil]
    rw [partV_succ, if_pos h]
    have : partV F v v = [] := by
      unfold partV
      rw [List.map_eq_nil_iff, List.filter_eq_nil_iff]
      intro u hu
      have hu' := List.mem_range.1 hu
      have := rootF_le hF (n := 12) (v := u) (by omega)
      simp only [decide_eq_true_eq]; omega
    rw [this]; rfl
theorem parts_old {F : List Nat} {v k : Nat} (h : rootF F 12 v ≠ v) {r : Nat} (hk : (rootsL F v)[k]? = some r) (hr : rootF F 12 v = r) : (rootsL F (v + 1)) = rootsL F v ∧ (partsV F v)[k]? = some (partV F v r) ∧ partsV F (v + 1) = (partsV F v).set k (partV F v r ++ [(v : Int)]) := by
  have e1 : rootsL F (v + 1) = rootsL F v := by rw [rootsL_succ, if_neg h]
  refine ⟨e1, by simp [partsV, hk], ?_⟩
  unfold partsV
  rw [e1]
  apply List.ext_getElem?
  intro i
  have hkl := (List.getElem?_eq_some_iff.1 hk).1
  by_cases e : k = i
  · subst e
    rw [List.getElem?_set_self (by simpa using hkl), List.getElem?_map, hk]
    simp only [Option.map_some]
    rw [partV_succ, if_pos hr]
  · rw [List.getElem?_set_ne e, List.getElem?_map, List.getElem?_map]
    cases hi : (rootsL F v)[i]? with
    | none => rfl
    | some s =>
      simp only [Option.map_some]
      rw [partV_succ, if_neg]
      intro hs
      obtain ⟨hil, e2⟩ := List.getElem?_eq_some_iff.1 hi
      obtain ⟨_, e3⟩ := List.getElem?_eq_some_iff.1 hk
      have hnd := rootsL_nodup F v
      rw [List.Nodup, List.pairwise_iff_getElem] at hnd
      have e4 : (rootsL F v)[k] = (rootsL F v)[i] := by rw [e2, e3, ← hr, hs]
      rcases Nat.lt_or_gt_of_ne e with h | h
      · exact hnd k i hkl hil h e4
      · exact hnd i k hil hkl h e4.symm
def mR : Nat → List Nat → List (MKey × MV)
  | _, [] => []
  | b, r :: l => (.int r, .c (.int .i64 (b : Int))) :: mR (b + 1) l
theorem mR_none : ∀ (b : Nat) (l : List Nat) (r : Nat), r ∉ l → mIdx (mR b l) (.int r) = none
  | b, [], r, _ => rfl
  | b, x :: l, r, h => by
    have h1 : ¬ x = r := fun e => h (by simp [e])
    have h2 := mR_none (b + 1) l r (fun hm => h (by simp [hm]))
    unfold mIdx at h2 ⊢
    simp only [mR, List.findIdx?_cons, h2, Option.map_none]
    rw [if_neg]
    intro e
    have : (MKey.int (x : Int)) = .int r := by simpa using e
    injection this with e
    exact h1 (by omega)
theorem mR_at : ∀ (b : Nat) (l : List Nat) (k r : Nat), l.Nodup → l[k]? = some r → mIdx (mR b l) (.int r) = some k ∧ (mR b l)[k]? = some (.int r, .c (.int .i64 ((b + k : Nat) : Int)))
  | b, [], k, r, _, h => by simp at h
  | b, x :: l, 0, r, _, h => by
    simp at h; subst h
    simp [mIdx, mR, List.findIdx?_cons]
  | b, x :: l, k + 1, r, hn, h => by
    rw [List.nodup_cons] at hn
    have h' : l[k]? = some r := by simpa using h
    obtain ⟨q1, q2⟩ := mR_at (b + 1) l k r hn.2 h'
    have h1 : ¬ x = r := fun e => hn.1 (by rw [e]; exact List.mem_of_getElem? h')
    constructor
    · unfold mIdx at q1 ⊢
      simp only [mR, List.findIdx?_cons, q1, Option.map_some]
      rw [if_neg]
      intro e
      have : (MKey.int (x : Int)) = .int r := by simpa using e
      injection this with e
      exact h1 (by omega)
    · simp only [mR, List.getElem?_cons_succ, q2]
      rw [show b + 1 + k = b + (k + 1) by omega]
theorem mR_val {l : List Nat} {k r : Nat} (hn : l.Nodup) (h : l[k]? = some r) (z : MV) : mVal (mR 0 l) (.int r) z = .c (.int .i64 (k : Int)) := by
  obtain ⟨q1, q2⟩ := mR_at 0 l k r hn h
  unfold mVal
  simp [q1, q2]
theorem mR_snoc : ∀ (b : Nat) (l : List Nat) (r : Nat), mR b (l ++ [r]) = mR b l ++ [(.int r, .c (.int .i64 ((b + l.length : Nat) : Int)))]
  | b, [], r => by simp [mR]
  | b, x :: l, r => by
    have := mR_snoc (b + 1) l r
    simp only [List.cons_append, mR, this, List.length_cons]
    rw [show b + 1 + l.length = b + (l.length + 1) by omega]
theorem mR_put {l : List Nat} {r : Nat} (h : r ∉ l) : mPut (mR 0 l) (.int r) (.c (.int .i64 (l.length : Int))) = mR 0 (l ++ [r]) := by
  unfold mPut
  rw [mR_none 0 l r h, mR_snoc]
  simp
theorem klInts_ok : ∀ {b : Nat} {l : List Nat}, ∀ e, e ∈ mR b l → KShape.ok .int e.1 = true
  | b, [], e, h => by simp [mR] at h
  | b, x :: l, e, h => by
    rcases List.mem_cons.1 h with rfl | h
    · rfl
    · exact klInts_ok e h
end Go.Proofs.YtfkegnhpihoncaaGreat
set_option linter.all false
namespace Go.Proofs.YtfkegnhpihoncaaGreat
open Go.Sp
set_option linter.unusedSimpArgs false
set_option linter.unusedVariables false
set_option maxHeartbeats 4000000
set_option maxRecDepth 100000
theorem fC_in {m : Nat} {F : List Nat} : Go.Sp.cellsIn m (fC F) := cellsIn_map fun _ => True.intro
def tF (F : List Nat) : TVal := .agg (fT F)
theorem fT_of (F : List Nat) : (fT F).map ofTree = fC F := by simp [fT, fC, ofTree]
theorem fC_store (Z F : List Nat) (h : Z.length = F.length) : setMany (fC Z) 0 (fC F) = fC F := by
  apply List.ext_getElem?
  intro i
  rw [setMany_get _ _ _ _ (by simp [fC_len, h])]
  by_cases hi : i < F.length
  · rw [if_pos ⟨Nat.zero_le _, by rw [fC_len]; omega⟩, Nat.sub_zero]
  · rw [if_neg (by rw [fC_len]; omega), List.getElem?_eq_none (by rw [fC_len]; omega), List.getElem?_eq_none (by rw [fC_len]; omega)]
theorem fC_free : ∀ F : List Nat, anyFree (fC F) = true
  | [] => rfl
  | _ :: F => fC_free F
theorem fC_borrow (H : List Blk) : ∀ F : List Nat, (fC F).mapM (borrow H) = some (fT F)
  | [] => rfl
  | x :: F => by
    have ih := fC_borrow H F
    simp only [fC, fT, List.map_cons, List.mapM_cons] at ih ⊢
    rw [ih]; rfl
theorem cgrown_ok : ACall Tryz.prog 188 [] (tF (List.range 12)) := by
  refine ACall.of_body Tryz.func188 rfl (by kernel_rfl) ?_
  simp only [entry, Tryz.ntmps188]
  refine zU ?_
  repeat' (first|((first|(refine zT ?_;intro K' hK')|(refine zG ?_ ?_<;>(try refine zH ?_)<;>intro hguard<;>(try exact zX)<;>try intro K' hK'))<;>((try simp +contextual only [go_sem]);(repeat' first|(with_reducible refine hK' _ _ ?_;clear hK' K')|exact zY|with_reducible refine And.intro ?_ ?_|(with_reducible intro hpath;try exact zP)|(refine hK' _ _ ?_;clear hK' K')|fail);try refine zS ?_))|(refine zE ?_;refine hK _ _ ?_;clear hK K)|(refine zN ?_;try refine zS ?_)|refine zA ?_|(refine zB ?_;intro K hK)|(refine zC ?_ ?_<;>(try refine zH ?_)<;>intro hcond<;>try exact zX)|fail)
  refine AWp.loopx (α:=Nat) (fun i=>(⟨.c (.ptr 0 0) :: .c (.ptr 1 0) :: .c .any :: .c (.int .i64 (i : Int)) :: .c .any :: .c .any :: .c .any :: .c .any :: .c .any :: .c .any :: .c .any :: [],[.box (fC (List.replicate 12 0)), .box (fC (initF i))]⟩:St)) (fun i=>i ≤ 12) (fun i=>12 - i) (0) (Weak.headL 2 11 [0, 1, 3] (by (repeat' (first | exact valsIn_nil _ | exact blksIn_nil _ | exact cellsIn_nil _ | refine And.intro ?_ ?_ | refine valsIn_cons ?_ ?_ | refine blksIn_cons ?_ ?_ | refine cellsIn_cons ?_ ?_ | exact True.intro | exact fC_in | (show _ < _; omega) | exact cellsIn_map (fun _ => True.intro) | (intro c hc; cases hc; done) | (intro c hc; simp only [List.mem_cons, List.not_mem_nil, or_false] at hc; subst hc; exact True.intro) | (intro c hc; simp only [List.mem_cons, List.not_mem_nil, or_false] at hc; rcases hc with rfl | rfl <;> exact True.intro))))) ?_ (fun i hI=>?_)
  · exact Nat.zero_le _
  · by_cases hlt : i < 12
    · have hset := initF_set hlt
      have hlen := initF_len hI
      generalize initF i = F at *
      repeat' (first|((first|(refine zT ?_;intro K' hK')|(refine zG ?_ ?_<;>(try refine zH ?_)<;>intro hguard<;>(try exact zX)<;>try intro K' hK'))<;>((try simp +contextual only [go_sem, Int.toNat_natCast, Nat.mul_one, fC_len, hlen, fC_set, fC_set2, hset]);(repeat' first|(with_reducible refine hK' _ _ ?_;clear hK' K')|exact zY|with_reducible refine And.intro ?_ ?_|(with_reducible intro hpath;try exact zP)|(refine hK' _ _ ?_;clear hK' K')|fail);try refine zS ?_))|(refine zE ?_;refine hK _ _ ?_;clear hK K)|(refine zN ?_;try refine zS ?_)|refine zA ?_|(refine zB ?_;intro K hK)|(refine zC ?_ ?_<;>(try refine zH ?_)<;>intro hcond<;>try exact zX)|fail)
      refine ⟨i + 1,Weak.headN 2 11 [0, 1, 3] (by (repeat' (first | exact valsIn_nil _ | exact blksIn_nil _ | exact cellsIn_nil _ | refine And.intro ?_ ?_ | refine valsIn_cons ?_ ?_ | refine blksIn_cons ?_ ?_ | refine cellsIn_cons ?_ ?_ | exact True.intro | exact fC_in | (show _ < _; omega) | exact cellsIn_map (fun _ => True.intro) | (intro c hc; cases hc; done) | (intro c hc; simp only [List.mem_cons, List.not_mem_nil, or_false] at hc; subst hc; exact True.intro) | (intro c hc; simp only [List.mem_cons, List.not_mem_nil, or_false] at hc; rcases hc with rfl | rfl <;> exact True.intro)))),?_,?_⟩
      · exact hlt
      · omega
    · have ei : i = 12 := by omega
      subst ei
      rw [initF_12]
      have hl : (List.range 12).length = 12 := List.length_range
      generalize List.range 12 = F at *
      have ht : (fC F).take 12 = fC F := List.take_of_length_le (by rw [fC_len, hl]; exact Nat.le_refl _)
      have hs := fC_store (List.replicate 12 0) F (by simp [hl])
      have hlr : (List.replicate 12 0 : List Nat).length = 12 := by simp
      generalize List.replicate 12 0 = Z at *
      repeat' (first|((first|(refine zT ?_;intro K' hK')|(refine zG ?_ ?_<;>(try refine zH ?_)<;>intro hguard<;>(try exact zX)<;>try intro K' hK'))<;>((try simp +contextual only [go_sem, fC_len, hl, hlr, ht, hs, fC_free]);(repeat' first|(with_reducible refine hK' _ _ ?_;clear hK' K')|exact zY|with_reducible refine And.intro ?_ ?_|(with_reducible intro hpath;try exact zP)|(refine hK' _ _ ?_;clear hK' K')|fail);try refine zS ?_))|(refine zE ?_;refine hK _ _ ?_;clear hK K)|(refine zN ?_;try refine zS ?_)|refine zA ?_|(refine zB ?_;intro K hK)|(refine zC ?_ ?_<;>(try refine zH ?_)<;>intro hcond<;>try exact zX)|fail)
      have hm := fC_borrow [Blk.box (fC F), Blk.box (fC F)] F
      simp [Rets, aret, Blk.cells, ty, Tryz.results188, ares, toT1, toT, borrow, borrow0, capCell, toTree0, hm, hl, ht, fC_len, tF]
theorem croot_ok (F : List Nat) (h : FOk F) (v : Nat) (hv : v < 12) : ACall Tryz.prog 190 [.t (.rptr (fT F)), tint v] (tint (rootF F 12 v)) := by
  have hF := h.len
  refine ACall.of_body Tryz.func190 rfl (by kernel_rfl) ?_
  simp only [entry, Tryz.ntmps190, tint]
  refine zU ?_
  repeat' (first|((first|(refine zT ?_;intro K' hK')|(refine zG ?_ ?_<;>(try refine zH ?_)<;>intro hguard<;>(try exact zX)<;>try intro K' hK'))<;>((try simp +contextual only [go_sem]);(repeat' first|(with_reducible refine hK' _ _ ?_;clear hK' K')|exact zY|with_reducible refine And.intro ?_ ?_|(with_reducible intro hpath;try exact zP)|(refine hK' _ _ ?_;clear hK' K')|fail);try refine zS ?_))|(refine zE ?_;refine hK _ _ ?_;clear hK K)|(refine zN ?_;try refine zS ?_)|refine zA ?_|(refine zB ?_;intro K hK)|(refine zC ?_ ?_<;>(try refine zH ?_)<;>intro hcond<;>try exact zX)|fail)
  refine AWp.loopx (α:=Nat) (fun u=>(⟨.c (.rptr (fT F)) :: .c (.int .i64 (u : Int)) :: .c .any :: .c .any :: .c .any :: .c .any :: .c .any :: .c .any :: .c .any :: .c .any :: .c .any :: .c .any :: .c .any :: .c .any :: .c .any :: .c .any :: .c .any :: .c .any :: [],[]⟩:St)) (fun u=>u < 12 ∧ rootF F 12 v = rootF F 12 u) (fun u=>u) (v) (Weak.headL 0 18 [0, 1] (by (repeat' (first | exact valsIn_nil _ | exact blksIn_nil _ | exact cellsIn_nil _ | refine And.intro ?_ ?_ | refine valsIn_cons ?_ ?_ | refine blksIn_cons ?_ ?_ | refine cellsIn_cons ?_ ?_ | exact True.intro | exact fC_in | (show _ < _; omega) | exact cellsIn_map (fun _ => True.intro) | (intro c hc; cases hc; done) | (intro c hc; simp only [List.mem_cons, List.not_mem_nil, or_false] at hc; subst hc; exact True.intro) | (intro c hc; simp only [List.mem_cons, List.not_mem_nil, or_false] at hc; rcases hc with rfl | rfl <;> exact True.intro))))) ?_ (fun u hI=>?_)
  · exact ⟨hv, rfl⟩
  · obtain ⟨hu, hx⟩ := hI
    have hul : u < F.length := by omega
    have e1 := fT_drop hul
    have e2 := rootF_step h hul
    have e3 := h.le u hul
    repeat' (first|((first|(refine zT ?_;intro K' hK')|(refine zG ?_ ?_<;>(try refine zH ?_)<;>intro hguard<;>(try exact zX)<;>try intro K' hK'))<;>((try simp +contextual only [go_sem, e1, Int.toNat_natCast, Nat.mul_one]);(repeat' first|(with_reducible refine hK' _ _ ?_;clear hK' K')|exact zY|with_reducible refine And.intro ?_ ?_|(with_reducible intro hpath;try exact zP)|(refine hK' _ _ ?_;clear hK' K')|fail);try refine zS ?_))|(refine zE ?_;refine hK _ _ ?_;clear hK K)|(refine zN ?_;try refine zS ?_)|refine zA ?_|(refine zB ?_;intro K hK)|(refine zC ?_ ?_<;>(try refine zH ?_)<;>intro hcond<;>try exact zX)|fail)
    · rw [if_neg (by omega)] at e2
      refine ⟨F[u],Weak.headN 0 18 [0, 1] (by (repeat' (first | exact valsIn_nil _ | exact blksIn_nil _ | exact cellsIn_nil _ | refine And.intro ?_ ?_ | refine valsIn_cons ?_ ?_ | refine blksIn_cons ?_ ?_ | refine cellsIn_cons ?_ ?_ | exact True.intro | exact fC_in | (show _ < _; omega) | exact cellsIn_map (fun _ => True.intro) | (intro c hc; cases hc; done) | (intro c hc; simp only [List.mem_cons, List.not_mem_nil, or_false] at hc; subst hc; exact True.intro) | (intro c hc; simp only [List.mem_cons, List.not_mem_nil, or_false] at hc; rcases hc with rfl | rfl <;> exact True.intro)))),?_,?_⟩
      · exact ⟨by omega, by rw [hx, e2]⟩
      · omega
    · rw [if_pos (by omega)] at e2
      have e : rootF F 12 v = u := by rw [hx, e2]
      simp [Rets, aret, Blk.cells, ty, Tryz.results190, ares, toT1, toT, borrow, borrow0, capCell, toTree0, tint, e]
theorem croot_call (F : List Nat) (h : FOk F) (v : Nat) (hv : v < 12) {H : List Blk} {id : Nat} (hb : H[id]? = some (.box (fC F))) :
    ACallH Tryz.prog 190 H [.c (.ptr id 0), .c (.int .i64 (v : Int))] H (.c (.int .i64 (rootF F 12 v : Nat))) :=
  ACall.hb (croot_ok F h v hv) (by simp [toT, borrow, borrow0, hb, Blk.cells, mapM_fT, toTree0, tint]) rfl
theorem cjoin_ok (F : List Nat) (h : FOk F) (a b : Nat) (ha : a < 12) (hb : b < 12) {H : List Blk} {id : Nat} (hid : H[id]? = some (.box (fC F))) :
    ACallH Tryz.prog 189 H [.c (.ptr id 0), .c (.int .i64 (a : Int)), .c (.int .i64 (b : Int))] (H.set id (.box (fC (F.set (max (rootF F 12 a) (rootF F 12 b)) (min (rootF F 12 a) (rootF F 12 b)))))) (.tup []) := by
  have rx := croot_call F h a ha hid
  have ry := croot_call F h b hb hid
  have la := rootF_le h (n := 12) ha
  have lb := rootF_le h (n := 12) hb
  generalize rootF F 12 a = x at *
  generalize rootF F 12 b = y at *
  have hmax : max (x : Int) (y : Int) = ((max x y : Nat) : Int) := by omega
  have hmin : min (x : Int) (y : Int) = ((min x y : Nat) : Int) := by omega
  refine ACallH.of_body Tryz.func189 rfl (by kernel_rfl) ?_
  simp only [entry, Tryz.ntmps189, List.length_cons, List.length_nil, Nat.reduceAdd, Nat.reduceSub, List.replicate_succ, List.replicate_zero, List.cons_append, List.nil_append]
  repeat' (first|((first|(refine zT ?_;intro K' hK')|(refine zG ?_ ?_<;>(try refine zH ?_)<;>intro hguard<;>(try exact zX)<;>try intro K' hK'))<;>((try simp +contextual only [go_sem, Int.toNat_natCast, Nat.mul_one, fC_len, fC_set, fC_set2, hmax, hmin, h.len, hid]);(repeat' first|(with_reducible refine hK' _ _ ?_;clear hK' K')|((with_reducible first|refine ⟨_,_,rx,?_⟩|refine ⟨_,rx,?_⟩|refine ⟨_,_,ry,?_⟩|refine ⟨_,ry,?_⟩);try simp +contextual only [go_sem, Int.toNat_natCast, Nat.mul_one, fC_len, fC_set, fC_set2, hmax, hmin, h.len, hid])|exact zY|with_reducible refine And.intro ?_ ?_|(with_reducible intro hpath;try exact zP)|(refine hK' _ _ ?_;clear hK' K')|fail);try refine zS ?_))|(refine zE ?_;refine hK _ _ ?_;clear hK K)|(refine zN ?_;try refine zS ?_)|refine zA ?_|(refine zB ?_;intro K hK)|(refine zC ?_ ?_<;>(try refine zH ?_)<;>intro hcond<;>try exact zX)|fail)
  simp [RetsH, aretH, ares, noTup, Tryz.results189]
end Go.Proofs.YtfkegnhpihoncaaGreat
set_option linter.all false
namespace Go.Proofs.YtfkegnhpihoncaaGreat
open Go.Sp
set_option linter.unusedSimpArgs false
set_option linter.unusedVariables false
set_option maxHeartbeats 4000000
set_option maxRecDepth 100000
def pairsE (es : List E) : List (Int × Int) := es.map fun e => (e.a, e.b)
theorem pairs_range {g : G} (hc : checkG g = 0) {p : Int × Int} (h : p ∈ pairsE g.es) : (0 ≤ p.1 ∧ p.1 < g.n) ∧ (0 ≤ p.2 ∧ p.2 < g.n) := by
  obtain ⟨e, he, rfl⟩ := List.mem_map.1 h
  have := (checkG_zero.1 hc).2.1 e he
  unfold okE at this
  simp only; omega
theorem pairs_in12 {g : G} (hc : checkG g = 0) : In12 (pairsE g.es) := fun p hp => by
  have := pairs_range hc hp
  have := (checkG_zero.1 hc).1
  omega
def zero12 : List Nat := List.replicate 12 0
theorem zero12_len : zero12.length = 12 := by simp [zero12]
theorem cjoined_ok (g : G) (hc : checkG g = 0) (hl : g.es.length < 2 ^ 30) : ACall Tryz.prog 173 [tG g] (tF (genS (pairsE g.es)).1) := by
  have h12 := pairs_in12 hc
  obtain ⟨n, es⟩ := g
  simp only at h12 hl ⊢
  have hg := cgrown_ok
  have hr12 : (List.range 12).length = 12 := List.length_range
  have h0 : (genS ((pairsE es).take 0)).1 = List.range 12 := rfl
  refine ACall.of_body Tryz.func173 rfl (by kernel_rfl) ?_
  simp only [entry, Tryz.ntmps173, tG]
  refine zU ?_
  generalize hR : List.range 12 = R at *
  have hof : (fT R).map ofTree = fC R := fT_of R
  have hst := fC_store zero12 R (by rw [hr12]; rfl)
  have hlz : zero12.length = 12 := zero12_len
  have hz : fC zero12 = [.int .i64 0, .int .i64 0, .int .i64 0, .int .i64 0, .int .i64 0, .int .i64 0, .int .i64 0, .int .i64 0, .int .i64 0, .int .i64 0, .int .i64 0, .int .i64 0] := rfl
  rw [hz] at hst
  unfold tF at hg
  repeat' (first|((first|(refine zT ?_;intro K' hK')|(refine zG ?_ ?_<;>(try refine zH ?_)<;>intro hguard<;>(try exact zX)<;>try intro K' hK'))<;>((try simp +contextual only [go_sem, eRows_len, fC_len, fC_free, hof, hst, hr12]);(repeat' first|(with_reducible refine hK' _ _ ?_;clear hK' K')|(with_reducible refine zK hg ?_;try simp +contextual only [go_sem, eRows_len, fC_len, fC_free, hof, hst, hr12])|exact zY|with_reducible refine And.intro ?_ ?_|(with_reducible intro hpath;try exact zP)|(refine hK' _ _ ?_;clear hK' K')|fail);try refine zS ?_))|(refine zE ?_;refine hK _ _ ?_;clear hK K)|(refine zN ?_;try refine zS ?_)|refine zA ?_|(refine zB ?_;intro K hK)|(refine zC ?_ ?_<;>(try refine zH ?_)<;>intro hcond<;>try exact zX)|fail)
  rw [← h0]
  refine AWp.loopx (α:=Nat) (fun i=>(⟨.c .any :: .c .any :: .c (.ptr 1 0) :: .c (.ptr 2 0) :: .c .any :: .c .any :: .c .any :: .c .any :: .c (.slice (eRows es) .none) :: .c (.int .i64 (es.length : Int)) :: .c (.int .i64 (i : Int)) :: .c .any :: .c .any :: .c .any :: .c .any :: .c .any :: .c .any :: .c .any :: .c .any :: .c .any :: .c .any :: [],[.box [.int .i64 n, .slice (eRows es) .none], .box (fC zero12), .box (fC (genS ((pairsE es).take i)).1)]⟩:St)) (fun i=>i ≤ es.length) (fun i=>es.length - i) (0) (Weak.headL 3 21 [2, 3, 8, 9, 10] (by (repeat' (first | exact valsIn_nil _ | exact blksIn_nil _ | exact cellsIn_nil _ | refine And.intro ?_ ?_ | refine valsIn_cons ?_ ?_ | refine blksIn_cons ?_ ?_ | refine cellsIn_cons ?_ ?_ | exact True.intro | exact fC_in | (show _ < _; omega) | exact cellsIn_map (fun _ => True.intro) | (intro c hc; cases hc; done) | (intro c hc; simp only [List.mem_cons, List.not_mem_nil, or_false] at hc; subst hc; exact True.intro) | (intro c hc; simp only [List.mem_cons, List.not_mem_nil, or_false] at hc; rcases hc with rfl | rfl <;> exact True.intro))))) ?_ (fun i hI=>?_)
  · exact Nat.zero_le _
  · have hi : i ≤ es.length := hI
    clear hI
    have hok := genS_ok (l := (pairsE es).take i) fun q hq => h12 q (List.mem_of_mem_take hq)
    by_cases hlt : i < es.length
    · have hltI : (i : Int) < es.length := by omega
      have e0 := List.getElem?_eq_getElem hlt
      have e1 := eRows_get e0
      have hp : (pairsE es)[i]? = some (es[i].a, es[i].b) := by simp [pairsE, e0]
      have hsn := take_snoc hp
      have hnx := genS_snoc ((pairsE es).take i) (es[i].a, es[i].b)
      rw [← hsn] at hnx
      have hrng := h12 _ (List.mem_of_getElem? hp)
      generalize es[i] = x at *
      obtain ⟨xa, xb, xm⟩ := x
      simp only at hrng hnx e1
      obtain ⟨a, rfl⟩ := Int.eq_ofNat_of_zero_le hrng.1.1
      obtain ⟨b, rfl⟩ := Int.eq_ofNat_of_zero_le hrng.2.1
      have ha : a < 12 := by omega
      have hb : b < 12 := by omega
      have hF := hok.1
      simp only [genStep, Int.toNat_natCast] at hnx
      have hn1 := congrArg Prod.fst hnx
      simp only at hn1
      generalize (genS ((pairsE es).take i)).1 = F at *
      have hJ := cjoin_ok F hF a b ha hb (H := [.box [.int .i64 n, .slice (eRows es) .none], .box (fC zero12), .box (fC F), .box [.int .i64 (a : Int), .int .i64 (b : Int), .int .i64 xm]]) (id := 2) rfl
      rw [← hn1] at hJ
      simp only [List.set_cons_succ, List.set_cons_zero] at hJ
      repeat' (first|((first|(refine zT ?_;intro K' hK')|(refine zG ?_ ?_<;>(try refine zH ?_)<;>intro hguard<;>(try exact zX)<;>try intro K' hK'))<;>((try simp +contextual only [go_sem, hltI, e1, eRows_len, Int.toNat_natCast]);(repeat' first|(with_reducible refine hK' _ _ ?_;clear hK' K')|((with_reducible first|refine ⟨_,_,hJ,?_⟩|refine ⟨_,hJ,?_⟩);try simp +contextual only [go_sem, hltI, e1, eRows_len, Int.toNat_natCast])|exact zY|with_reducible refine And.intro ?_ ?_|(with_reducible intro hpath;try exact zP)|(refine hK' _ _ ?_;clear hK' K')|fail);try refine zS ?_))|(refine zE ?_;refine hK _ _ ?_;clear hK K)|(refine zN ?_;try refine zS ?_)|refine zA ?_|(refine zB ?_;intro K hK)|(refine zC ?_ ?_<;>(try refine zH ?_)<;>intro hcond<;>try exact zX)|fail)
      refine ⟨i + 1,Weak.headN 3 21 [2, 3, 8, 9, 10] (by (repeat' (first | exact valsIn_nil _ | exact blksIn_nil _ | exact cellsIn_nil _ | refine And.intro ?_ ?_ | refine valsIn_cons ?_ ?_ | refine blksIn_cons ?_ ?_ | refine cellsIn_cons ?_ ?_ | exact True.intro | exact fC_in | (show _ < _; omega) | exact cellsIn_map (fun _ => True.intro) | (intro c hc; cases hc; done) | (intro c hc; simp only [List.mem_cons, List.not_mem_nil, or_false] at hc; subst hc; exact True.intro) | (intro c hc; simp only [List.mem_cons, List.not_mem_nil, or_false] at hc; rcases hc with rfl | rfl <;> exact True.intro)))),?_,?_⟩
      · exact hlt
      · omega
    · have ei : i = es.length := by omega
      subst ei
      have hnl : ¬ ((es.length : Int) < es.length) := by omega
      have htk : (pairsE es).take es.length = pairsE es := List.take_of_length_le (by simp [pairsE])
      rw [htk]
      rw [htk] at hok
      have hlF := hok.1.len
      generalize (genS (pairsE es)).1 = F at *
      have ht : (fC F).take 12 = fC F := List.take_of_length_le (by rw [fC_len, hlF]; exact Nat.le_refl _)
      have hs := fC_store zero12 F (by rw [hlF]; rfl)
      generalize zero12 = Z at *
      repeat' (first|((first|(refine zT ?_;intro K' hK')|(refine zG ?_ ?_<;>(try refine zH ?_)<;>intro hguard<;>(try exact zX)<;>try intro K' hK'))<;>((try simp +contextual only [go_sem, hnl, fC_len, hlF, hlz, ht, hs, fC_free]);(repeat' first|(with_reducible refine hK' _ _ ?_;clear hK' K')|exact zY|with_reducible refine And.intro ?_ ?_|(with_reducible intro hpath;try exact zP)|(refine hK' _ _ ?_;clear hK' K')|fail);try refine zS ?_))|(refine zE ?_;refine hK _ _ ?_;clear hK K)|(refine zN ?_;try refine zS ?_)|refine zA ?_|(refine zB ?_;intro K hK)|(refine zC ?_ ?_<;>(try refine zH ?_)<;>intro hcond<;>try exact zX)|fail)
      have hm := fC_borrow [Blk.box [.int .i64 n, .slice (eRows es) .none], Blk.box (fC F), Blk.box (fC F)] F
      simp [Rets, aret, Blk.cells, ty, Tryz.results173, ares, toT1, toT, borrow, borrow0, capCell, toTree0, hm, hlF, ht, fC_len, tF]
end Go.Proofs.YtfkegnhpihoncaaGreat
set_option linter.all false
namespace Go.Proofs.YtfkegnhpihoncaaGreat
open Go.Sp
set_option linter.unusedSimpArgs false
set_option linter.unusedVariables false
set_option maxHeartbeats 4000000
set_option maxRecDepth 100000
def iC (B : List Int) : List ACell := B.map fun x => ACell.int .i64 x
theorem iC_len (B : List Int) : (iC B).length = B.length := by simp [iC]
theorem iC_set (B : List Int) (i : Nat) (x : Int) : (iC B).set i (.int .i64 x) = iC (B.set i x) := by simp [iC, List.map_set]
theorem made_ints (n : Nat) : madeA [ACell.int .i64 0] n = iC (List.replicate n 0) := by simp [madeA, iC]
theorem iC_trees (B : List Int) : (iC B).mapM toTree0 = some (B.map fun x => Tree.int .i64 x) := by
  induction B with
  | nil => rfl
  | cons x xs ih => simp only [iC, List.map_cons, List.mapM_cons] at ih ⊢; rw [ih]; rfl
theorem iRows_pre (B : List Int) (i : Nat) (r : List Tree) (m : Nat) (x : Tree) (h1 : (iRows B)[i]? = some r) (h2 : r[m]? = some x) : (B.map fun x => Tree.int .i64 x)[i * 1 + m]? = some x := by
  simp only [iRows, List.getElem?_map] at h1
  cases hb : B[i]? with
  | none => rw [hb] at h1; simp at h1
  | some b =>
    rw [hb] at h1
    simp at h1
    subst h1
    cases m with
    | zero => simp at h2; simp [hb, h2]
    | succ m => simp at h2
theorem iC_get {B : List Int} {i : Nat} {x : Int} (h : B[i]? = some x) : (iC B)[i]? = some (.int .i64 x) := by simp [iC, h]
theorem iC_drop {B : List Int} {i : Nat} {x : Int} (h : B[i]? = some x) : (iC B).drop i = .int .i64 x :: (iC B).drop (i + 1) := by
  obtain ⟨hl, e⟩ := List.getElem?_eq_some_iff.1 (iC_get h)
  rw [List.drop_eq_getElem_cons hl, e]
theorem iC_in {m : Nat} {B : List Int} : blkIn m (.box (iC B)) := by
  intro c hc
  obtain ⟨p, _, rfl⟩ := List.mem_map.1 hc
  exact True.intro
theorem iRows_take (l : List Int) (i : Nat) : (iRows l).take i = iRows (l.take i) := by simp [iRows]
theorem iRows_drop (l : List Int) (i : Nat) : (iRows l).drop i = iRows (l.drop i) := by simp [iRows]
def llRows (ls : List (List Int)) : List (List Tree) := ls.map fun l => [Tree.slice (iRows l)]
def tlists (ls : List (List Int)) : TVal := .t (.slice (llRows ls))
attribute [go_sem] tlists
theorem llRows_len (ls : List (List Int)) : (llRows ls).length = ls.length := by simp [llRows]
theorem llRows_get {ls : List (List Int)} {i : Nat} {l : List Int} (h : ls[i]? = some l) : (llRows ls)[i]? = some [Tree.slice (iRows l)] := by simp [llRows, h]
theorem llRows_k' {ls : List (List Int)} {r : List Tree} (h : r ∈ llRows ls) : r.length = 1 := by
  obtain ⟨x, _, rfl⟩ := List.mem_map.1 h; rfl
theorem llRows_snoc (ls : List (List Int)) (a : List Int) : llRows ls ++ [[Tree.slice (iRows a)]] = llRows (ls ++ [a]) := by simp [llRows]
theorem chRows (ls : List (List Int)) : (ls.map iRows).map (fun r => [Tree.slice r]) = llRows ls := by simp [llRows]
def chI (b : Nat) (ls : List (List Int)) : List ACell := chC b (ls.map iRows)
def chJ (ls : List (List Int)) : List Blk := chB (ls.map iRows)
theorem chI_len (b : Nat) (ls : List (List Int)) : (chI b ls).length = ls.length := by simp [chI, chC_len]
theorem chJ_len (ls : List (List Int)) : (chJ ls).length = ls.length := by simp [chJ, chB_len]
theorem chI_get {b i : Nat} {ls : List (List Int)} {l : List Int} (h : ls[i]? = some l) : (chI b ls)[i]? = some (.slice (iRows l) (.chain (i + b))) := chC_get (by simp [h])
theorem chI_drop {b i : Nat} {ls : List (List Int)} {l : List Int} (h : ls[i]? = some l) : (chI b ls).drop i = .slice (iRows l) (.chain (i + b)) :: (chI b ls).drop (i + 1) := chC_drop (by simp [h])
theorem chI_set (b i : Nat) (ls : List (List Int)) (l : List Int) : (chI b ls).set i (.slice (iRows l) (.chain (i + b))) = chI b (ls.set i l) := by unfold chI; rw [chC_set, List.map_set]
theorem chJ_get {i : Nat} {ls : List (List Int)} {l : List Int} (h : ls[i]? = some l) : (chJ ls)[i]? = some (.chain l.length 1) := by
  have := chB_get (f := ls.map iRows) (i := i) (r := iRows l) (by simp [h])
  rwa [iRows_len] at this
theorem chJ_set (i : Nat) (ls : List (List Int)) (l : List Int) {n : Nat} (hn : n = l.length) : (chJ ls).set i (.chain n 1) = chJ (ls.set i l) := by
  unfold chJ; rw [chB_set _ i (iRows l) (by rw [iRows_len]; exact hn), List.map_set]
theorem chI_in {m b : Nat} {ls : List (List Int)} (h : b + ls.length ≤ m) : blkIn m (.box (chI b ls)) := chC_in (by simpa using h)
theorem chJ_in {m : Nat} {ls : List (List Int)} : blksIn m (chJ ls) := chB_in
theorem chJ_take {ls : List (List Int)} {n : Nat} (h : ls.length ≤ n) : (chJ ls).take n = chJ ls := List.take_of_length_le (by rw [chJ_len]; exact h)
theorem chI_nil (b n : Nat) : chC b (List.replicate n []) = chI b (List.replicate n []) := by simp [chI, iRows]
theorem chJ_nil (n : Nat) : chB (List.replicate n []) = chJ (List.replicate n []) := by simp [chJ, iRows]
theorem made_nils (n : Nat) : madeA [ACell.nils] n = List.replicate n .nils := by simp [madeA]
structure R where
  n : Int
  es : List E
  ar : List (List Int)
def R.g (r : R) : G := ⟨r.n, r.es⟩
def tR (r : R) : TVal := .agg [.int .i64 r.n, .slice (eRows r.es), .slice (llRows r.ar)]
def tabI (N : Nat) (g : Nat → Int) : List Int := (List.range N).map g
theorem tabI_len (N : Nat) (g : Nat → Int) : (tabI N g).length = N := by simp [tabI]
theorem tabI_get {N i : Nat} (g : Nat → Int) (h : i < N) : (tabI N g)[i]? = some (g i) := by simp [tabI, h]
theorem tabI_congr {N : Nat} {g f : Nat → Int} (h : ∀ i, i < N → g i = f i) : tabI N g = tabI N f := List.map_congr_left fun i hi => h i (List.mem_range.1 hi)
theorem tabI_set {N i : Nat} (g : Nat → Int) (x : Int) (hi : i < N) : (tabI N g).set i x = tabI N (fun j => if j = i then x else g j) := by
  apply List.ext_getElem?
  intro k
  by_cases hk : k < N
  · rw [tabI_get _ hk]
    by_cases e : i = k
    · subst e; rw [List.getElem?_set_self (by rw [tabI_len]; exact hi)]; simp
    · rw [List.getElem?_set_ne e, tabI_get _ hk, if_neg (by omega)]
  · rw [List.getElem?_eq_none (by rw [List.length_set, tabI_len]; omega), List.getElem?_eq_none (by rw [tabI_len]; omega)]
theorem tabI_rep (N : Nat) : List.replicate N (0 : Int) = tabI N fun _ => 0 := by
  rw [tabI, eq_comm, List.eq_replicate_iff]
  exact ⟨by simp, fun x hx => by obtain ⟨_, _, rfl⟩ := List.mem_map.1 hx; rfl⟩
end Go.Proofs.YtfkegnhpihoncaaGreat
set_option linter.all false
namespace Go.Proofs.YtfkegnhpihoncaaGreat
open Go.Sp
set_option linter.unusedSimpArgs false
set_option linter.unusedVariables false
set_option maxHeartbeats 4000000
set_option maxRecDepth 100000
theorem mapInt : tMap Tryz.prog 212 = some (3, 3) := by simp only [ty]
theorem zeroI : tZero Tryz.prog 3 = some (.int .i64 0) := by simp only [ty]
theorem partsV_len (F : List Nat) (v : Nat) : (partsV F v).length = (rootsL F v).length := by simp [partsV]
theorem chI_in' {m b : Nat} {ls : List (List Int)} {n : Nat} (h : b + ls.length ≤ m) : blkIn m (.box (chI b ls ++ List.replicate n .any)) := chC_in' (by simpa using h)
theorem chI_put (b i : Nat) (ls : List (List Int)) (l : List Int) (R : List ACell) (h : i < ls.length) : (chI b ls ++ R).set i (.slice (iRows l) (.chain (i + b))) = chI b (ls.set i l) ++ R := by
  rw [List.set_append_left _ _ (by rw [chI_len]; exact h), chI_set]
theorem chI_at {b i : Nat} {ls : List (List Int)} {l : List Int} (R : List ACell) (h : ls[i]? = some l) : (chI b ls ++ R).drop i = .slice (iRows l) (.chain (i + b)) :: (chI b ls ++ R).drop (i + 1) := by
  have hl := (List.getElem?_eq_some_iff.1 h).1
  rw [List.drop_append_of_le_length (by rw [chI_len]; omega), List.drop_append_of_le_length (by rw [chI_len]; omega), chI_drop h]; rfl
theorem chI_new (b : Nat) (ls : List (List Int)) (l : List Int) (R : List ACell) : (chI b ls ++ [ACell.nils] ++ R).set ls.length (.slice (iRows l) (.chain (ls.length + b))) = chI b (ls ++ [l]) ++ R := by
  rw [List.append_assoc, List.set_append_right _ _ (by rw [chI_len]; exact Nat.le_refl _), chI_len, Nat.sub_self]
  unfold chI
  rw [List.map_append, List.map_cons, List.map_nil, chC_snoc]
  simp
theorem chI_newAt (b : Nat) (ls : List (List Int)) (R : List ACell) : (chI b ls ++ [ACell.nils] ++ R).drop ls.length = .nils :: R := by
  rw [List.append_assoc, List.drop_append, chI_len, Nat.sub_self, List.drop_eq_nil_of_le (by rw [chI_len]; exact Nat.le_refl _)]; rfl
theorem chI_newGet (b : Nat) (ls : List (List Int)) (R : List ACell) : (chI b ls ++ [ACell.nils] ++ R)[ls.length]? = some .nils := by
  have := congrArg (·[0]?) (chI_newAt b ls R)
  simpa using this
theorem chI_get' {b i : Nat} {ls : List (List Int)} {l : List Int} (R : List ACell) (h : ls[i]? = some l) : (chI b ls ++ R)[i]? = some (.slice (iRows l) (.chain (i + b))) := by
  have hl := (List.getElem?_eq_some_iff.1 h).1
  rw [List.getElem?_append_left (by rw [chI_len]; exact hl)]
  exact chI_get h
theorem chJ_snoc (ls : List (List Int)) (l : List Int) : chJ (ls ++ [l]) = chJ ls ++ [.chain l.length 1] := by
  unfold chJ; rw [List.map_append, List.map_cons, List.map_nil, chB_snoc, iRows_len]
theorem chI_no {j b : Nat} {ls : List (List Int)} : ∀ c, c ∈ chI b ls → noJ j c = true := chC_no
@[simp] theorem chJ_parts (F : List Nat) (v : Nat) : (chJ (partsV F v)).take (rootsL F v).length = chJ (partsV F v) := chJ_take (by rw [partsV_len]; exact Nat.le_refl _)
theorem noB_parts {cs0 : List ACell} {F : List Nat} (h0 : ∀ c, c ∈ cs0 → noJ 3 c = true) {es : List (MKey × MV)} {b : Blk} {ps : List (List Int)} : ∀ (i : Nat) blk, (Blk.box cs0 :: .box (fC F) :: .map es :: b :: chJ ps)[i]? = some blk → i ≠ 3 → noB 3 blk
  | 0, blk, h, _ => by simp at h; subst h; exact h0
  | 1, blk, h, _ => by
    simp at h; subst h
    intro c hc
    obtain ⟨n, _, rfl⟩ := List.mem_map.1 hc
    rfl
  | 2, blk, h, _ => by simp at h; subst h; trivial
  | 3, blk, h, hn => absurd rfl hn
  | i + 4, blk, h, _ => by
    have hm := List.mem_of_getElem? (l := chJ ps) (i := i) (a := blk) (by simpa using h)
    obtain ⟨r, _, rfl⟩ := List.mem_map.1 hm
    trivial
theorem cparts_ok (F : List Nat) (hF : FOk F) (n : Nat) (h1 : 1 ≤ n) (hn : n ≤ 12) (cs0 : List ACell) (hcs : ∀ m, 2 ≤ m → blkIn m (.box cs0)) (hno : ∀ c, c ∈ cs0 → noJ 3 c = true) :
    ACallH Tryz.prog 174 [.box cs0, .box (fC F)] [.c (.ptr 1 0), .c (.int .i64 (n : Int))] [.box cs0, .box (fC F)] (.c (.slice (llRows (partsV F n)) .none)) := by
  have hroot := fun (v : Nat) (hv : v < 12) (H : List Blk) (hH : H[1]? = some (.box (fC F))) => croot_call F hF v hv (id := 1) hH
  refine ACallH.of_body Tryz.func174 rfl (by kernel_rfl) ?_
  simp only [entry, Tryz.ntmps174, List.length_cons, List.length_nil, Nat.reduceAdd, Nat.reduceSub, List.replicate_succ, List.replicate_zero, List.cons_append, List.nil_append]
  repeat' (first|((first|(refine zT ?_;intro K' hK')|(refine zG ?_ ?_<;>(try refine zH ?_)<;>intro hguard<;>(try exact zX)<;>try intro K' hK'))<;>((try simp +contextual only [go_sem]);(repeat' first|(with_reducible refine hK' _ _ ?_;clear hK' K')|exact zY|with_reducible refine And.intro ?_ ?_|(with_reducible intro hpath;try exact zP)|(refine hK' _ _ ?_;clear hK' K')|fail);try refine zS ?_))|(refine zE ?_;refine hK _ _ ?_;clear hK K)|(refine zN ?_;try refine zS ?_)|refine zA ?_|(refine zB ?_;intro K hK)|(refine zC ?_ ?_<;>(try refine zH ?_)<;>intro hcond<;>try exact zX)|fail)
  refine AWp.weak (Weak.asVec 5 1 rfl rfl (by simp)) ?_
  simp only [List.length_cons, List.length_nil, List.set_cons_succ, List.set_cons_zero, List.cons_append, List.nil_append, Nat.zero_add]
  refine AWp.loopx (α:=(Nat × Nat)) (fun s=>(⟨.c (.ptr 1 0) :: .c .any :: .c .any :: .c .any :: .c .any :: .c (.vec 3 (rootsL F s.1).length s.2) :: .c (.map 2) :: .c .any :: .c .any :: .c .any :: .c (.int .i64 (n : Int)) :: .c (.int .i64 (s.1 : Int)) :: .c .any :: .c .any :: .c .any :: .c .any :: .c .any :: .c .any :: .c .any :: .c .any :: .c .any :: .c .any :: .c .any :: .c .any :: .c .any :: .c .any :: .c .any :: .c .any :: .c .any :: .c .any :: .c .any :: .c .any :: .c .any :: .c .any :: .c .any :: .c .any :: .c .any :: .c .any :: .c .any :: .c .any :: .c .any :: .c .any :: .c .any :: [],.box cs0 :: .box (fC F) :: .map (mR 0 (rootsL F s.1)) :: .box (chI 4 (partsV F s.1) ++ List.replicate (s.2 - (rootsL F s.1).length) .any) :: chJ (partsV F s.1)⟩:St)) (fun s=>s.1 ≤ n ∧ (rootsL F s.1).length ≤ s.2) (fun s=>n - s.1) ((0, 0)) (Weak.headL ((rootsL F ((0, 0)).1).length + 4) 43 [0, 5, 6, 10, 11] (by (repeat' (first | exact valsIn_nil _ | exact blksIn_nil _ | exact cellsIn_nil _ | refine And.intro ?_ ?_ | refine valsIn_cons ?_ ?_ | refine blksIn_cons ?_ ?_ | refine cellsIn_cons ?_ ?_ | exact True.intro | exact chI_in' (by rw [partsV_len]; omega) | exact chJ_in | exact hcs _ (by omega) | exact fC_in | (show _ < _; omega) | exact cellsIn_map (fun _ => True.intro) | (intro c hc; cases hc; done) | (intro c hc; simp only [List.mem_cons, List.not_mem_nil, or_false] at hc; subst hc; exact True.intro) | (intro c hc; simp only [List.mem_cons, List.not_mem_nil, or_false] at hc; rcases hc with rfl | rfl <;> exact True.intro))))) ?_ (fun s hI=>?_)
  · exact ⟨Nat.zero_le _, Nat.le_refl _⟩
  · obtain ⟨v, cap⟩ := s
    obtain ⟨hv, hcap⟩ := hI
    simp only at hv hcap ⊢
    by_cases hlt : v < n
    · have hltI : (v : Int) < n := by omega
      have hR := hroot v (by omega) _ (show (Blk.box cs0 :: .box (fC F) :: .map (mR 0 (rootsL F v)) :: .box (chI 4 (partsV F v) ++ List.replicate (cap - (rootsL F v).length) .any) :: chJ (partsV F v))[1]? = some (.box (fC F)) from rfl)
      have hle := rootF_le hF (n := 12) (v := v) (by omega)
      have hkl := rootsL_len F v
      have hpl := partsV_len F v
      by_cases hrv : rootF F 12 v = v
      · rw [hrv] at hR
        have hnew := parts_new hF (by omega) hrv
        have hsucc := rootsL_succ F v
        rw [if_pos hrv] at hsucc
        have hnm : ¬ v ∈ rootsL F v := fun h => by have := (rootsL_mem.1 h).1; omega
        have hput := mR_put hnm
        have hnd := rootsL_nodup F (v + 1)
        rw [hsucc] at hnd
        have hval := mR_val (k := (rootsL F v).length) (r := v) hnd (by simp) (.c (.int .i64 0))
        generalize rootsL F v = rs at *
        generalize partsV F v = ps at *
        repeat' (first|((with_reducible refine AWp.seq (AWp.of_reg (id:=9) (AReg.pre 1 (fun K hK=>?_))));simp only [List.take_succ_cons,List.take_zero])|((with_reducible refine AWp.of_reg (id:=9) (AReg.pre 1 (fun K hK=>?_)));simp only [List.take_succ_cons,List.take_zero])|((first|(refine zT ?_;intro K' hK')|(refine zG ?_ ?_<;>(try refine zH ?_)<;>intro hguard<;>(try exact zX)<;>try intro K' hK'))<;>((try simp +contextual only [go_sem, hltI, hput, toKey]);(repeat' first|(with_reducible refine hK' _ _ ?_;clear hK' K')|((with_reducible first|refine ⟨_,_,hR,?_⟩|refine ⟨_,hR,?_⟩);try simp +contextual only [go_sem, hltI, hput, toKey])|(refine ⟨_, klInt, rfl, klInts_ok, ?_⟩ ; simp +contextual only [go_sem, hltI, hput, toKey])|exact zY|with_reducible refine And.intro ?_ ?_|(with_reducible intro hpath;try exact zP)|(refine hK' _ _ ?_;clear hK' K')|fail);try refine zS ?_))|(refine zE ?_;refine hK _ _ ?_;clear hK K)|(refine zN ?_;try refine zS ?_)|refine zA ?_|(refine zB ?_;intro K hK)|(refine zC ?_ ?_<;>(try refine zH ?_)<;>intro hcond<;>try exact zX)|fail)
        simp only [List.drop_succ_cons, List.drop_zero]
        refine AReg.nilRow (e := 40) (z := .slice none 0 0) rfl rfl rfl (by simp only [ty]) (by simp only [ty]) (by simp only [ty]) rfl ?_
        refine AReg.grow (e := 40) (e2 := 40) (by' := 24) (z := .slice none 0 0) (j := 3) (tr := .raw (.slice none 0 0)) (tok := .exact) (used := chI 4 ps) rfl rfl rfl (by simp only [ty]) (by simp only [ty]) (by simp only [ty]) (by simp only [ty]) rfl (by simp only [ty]) rfl rfl (by rw [chI_len, hpl]) hcap (by simp) rfl (by omega) (by omega) (noB_parts hno) chI_no (fun cap' hc' => ?_)
        refine AReg.rest (fun K hK => ?_)
        simp only [List.map_cons, List.map_nil, fgt, fgtC, noJ, noK, aput, List.set_cons_succ, List.set_cons_zero, cellOf, bne_self_eq_false, show ((1 : Nat) != 3) = true from rfl, show ((2 : Nat) != 3) = true from rfl, if_true, Bool.false_eq_true, if_false]
        have w1 := chI_newAt 4 ps (List.replicate (cap' - (rs.length + 1)) .any)
        have w2 := chI_new 4 ps [(v : Int)] (List.replicate (cap' - (rs.length + 1)) .any)
        have w4 := chI_newGet 4 ps (List.replicate (cap' - (rs.length + 1)) .any)
        rw [hpl] at w1 w2 w4
        have w3 := chJ_snoc ps [(v : Int)]
        repeat' (first|(with_reducible refine AWp.seq_drawM mapInt klInt zeroI (by with_unfolding_all rfl) (by with_unfolding_all kernel_rfl) (fun K hK=>?_))|(with_reducible refine AWp.last_drawM mapInt klInt zeroI (by with_unfolding_all rfl) (by with_unfolding_all kernel_rfl) (fun K hK=>?_))|((first|(refine zT ?_;intro K' hK')|(refine zG ?_ ?_<;>(try refine zH ?_)<;>intro hguard<;>(try exact zX)<;>try intro K' hK'))<;>((try simp +contextual only [go_sem, hval, w1, w2, w4, chunks, List.range, List.range.loop, toKey, Int.toNat_natCast]);(repeat' first|(with_reducible refine hK' _ _ ?_;clear hK' K')|(exact rfl)|(exact klInts_ok)|(with_reducible exact iRows_k' (by assumption))|exact zY|with_reducible refine And.intro ?_ ?_|(with_reducible intro hpath;try exact zP)|(refine hK' _ _ ?_;clear hK' K')|fail);try refine zS ?_))|(refine zE ?_;refine hK _ _ ?_;clear hK K)|(refine zN ?_;try refine zS ?_)|refine zA ?_|(refine zB ?_;intro K hK)|(refine zC ?_ ?_<;>(try refine zH ?_)<;>intro hcond<;>try exact zX)|fail)
        · rw [chI_len, hpl, List.length_replicate]; omega
        · have hl : (rootsL F (v + 1)).length = rs.length + 1 := by rw [hsucc]; simp
          simp only [iRows, List.map_cons, List.map_nil] at w2
          rw [chJ_len, hpl, w2, ← hnew, ← hsucc, show chJ ps ++ [Blk.chain 1 1] = chJ (partsV F (v + 1)) from by rw [hnew, w3]; rfl]
          have ht2 : (chJ (partsV F (v + 1))).take (rs.length + 1) = chJ (partsV F (v + 1)) := chJ_take (by rw [partsV_len, hl]; exact Nat.le_refl _)
          refine ⟨(v + 1, cap'),Weak.headN ((rootsL F ((v + 1, cap')).1).length + 4) 43 [0, 5, 6, 10, 11] (by (repeat' (first | exact valsIn_nil _ | exact blksIn_nil _ | exact cellsIn_nil _ | refine And.intro ?_ ?_ | refine valsIn_cons ?_ ?_ | refine blksIn_cons ?_ ?_ | refine cellsIn_cons ?_ ?_ | exact True.intro | exact chI_in' (by rw [partsV_len]; omega) | exact chJ_in | exact hcs _ (by omega) | exact fC_in | (show _ < _; omega) | exact cellsIn_map (fun _ => True.intro) | (intro c hc; cases hc; done) | (intro c hc; simp only [List.mem_cons, List.not_mem_nil, or_false] at hc; subst hc; exact True.intro) | (intro c hc; simp only [List.mem_cons, List.not_mem_nil, or_false] at hc; rcases hc with rfl | rfl <;> exact True.intro)))) (e1:=by first|rfl|(simp [mask,keepL, hl, ht2];done)|(simp [mask,keepL, hl, ht2]<;>simp_all<;>omega)) (e2:=by first|rfl|(simp [mask,keepL, hl, ht2];done)|(simp [mask,keepL, hl, ht2]<;>simp_all<;>omega)),?_,?_⟩
          · exact ⟨hlt, by rw [hl]; exact hc'⟩
          · simp only; omega
      · obtain ⟨r, hr⟩ : ∃ r, rootF F 12 v = r := ⟨_, rfl⟩
        have hrlt : r < v := by omega
        have hfix := root_fix hF (u := v) (by omega)
        rw [hr] at hfix
        have hrr := root_self hF (u := r) (by omega) hfix
        have hmem : r ∈ rootsL F v := rootsL_mem.2 ⟨hrlt, hrr⟩
        obtain ⟨k, hk, hkr⟩ := List.mem_iff_getElem.1 hmem
        have hk' : (rootsL F v)[k]? = some r := by rw [List.getElem?_eq_getElem hk, hkr]
        obtain ⟨e1, e2, e3⟩ := parts_old hrv hk' hr
        have hval := mR_val (rootsL_nodup F v) hk' (.c (.int .i64 0))
        rw [hr] at hR hrv
        have hrvI : ¬ ((r : Int) = v) := by omega
        have hplen : (partV F v r).length ≤ v := by
          unfold partV
          rw [List.length_map]
          exact Nat.le_trans (List.length_filter_le _ _) (by simp)
        generalize partV F v r = p at *
        have hkI : (k : Int) < (rootsL F v).length := by omega
        have g1 := chI_get' (b := 4) (List.replicate (cap - (rootsL F v).length) .any) e2
        have g2 := chI_at (b := 4) (List.replicate (cap - (rootsL F v).length) .any) e2
        have g3 := chJ_get e2
        have g4 := chI_put 4 k (partsV F v) (p ++ [(v : Int)]) (List.replicate (cap - (rootsL F v).length) .any) (by omega)
        have g5 := chJ_set k (partsV F v) (p ++ [(v : Int)]) (n := p.length + 1) (by simp)
        rw [← e3] at g4 g5
        have hkc : k + 1 ≤ (partsV F v).length + (cap - (rootsL F v).length) := by omega
        repeat' (first|(with_reducible refine AWp.seq_drawM mapInt klInt zeroI (by with_unfolding_all rfl) (by with_unfolding_all kernel_rfl) (fun K hK=>?_))|(with_reducible refine AWp.last_drawM mapInt klInt zeroI (by with_unfolding_all rfl) (by with_unfolding_all kernel_rfl) (fun K hK=>?_))|((first|(refine zT ?_;intro K' hK')|(refine zG ?_ ?_<;>(try refine zH ?_)<;>intro hguard<;>(try exact zX)<;>try intro K' hK'))<;>((try simp +contextual only [go_sem, hltI, hrvI, hkI, hval, g1, g2, g3, g4, g5, chI_len, chJ_len, hpl, hkc, iRows_len, iRows_snoc, chunks, List.range, List.range.loop, toKey, Int.toNat_natCast, List.length_replicate]);(repeat' first|(with_reducible refine hK' _ _ ?_;clear hK' K')|((with_reducible first|refine ⟨_,_,hR,?_⟩|refine ⟨_,hR,?_⟩);try simp +contextual only [go_sem, hltI, hrvI, hkI, hval, g1, g2, g3, g4, g5, chI_len, chJ_len, hpl, hkc, iRows_len, iRows_snoc, chunks, List.range, List.range.loop, toKey, Int.toNat_natCast, List.length_replicate])|(exact rfl)|(exact klInts_ok)|(with_reducible exact iRows_k' (by assumption))|exact zY|with_reducible refine And.intro ?_ ?_|(with_reducible intro hpath;try exact zP)|(refine hK' _ _ ?_;clear hK' K')|fail);try refine zS ?_))|(refine zE ?_;refine hK _ _ ?_;clear hK K)|(refine zN ?_;try refine zS ?_)|refine zA ?_|(refine zB ?_;intro K hK)|(refine zC ?_ ?_<;>(try refine zH ?_)<;>intro hcond<;>try exact zX)|fail)
        have ht2 : (chJ (partsV F (v + 1))).take (rootsL F v).length = chJ (partsV F (v + 1)) := chJ_take (by rw [partsV_len, e1]; exact Nat.le_refl _)
        refine ⟨(v + 1, cap),Weak.headN ((rootsL F ((v + 1, cap)).1).length + 4) 43 [0, 5, 6, 10, 11] (by (repeat' (first | exact valsIn_nil _ | exact blksIn_nil _ | exact cellsIn_nil _ | refine And.intro ?_ ?_ | refine valsIn_cons ?_ ?_ | refine blksIn_cons ?_ ?_ | refine cellsIn_cons ?_ ?_ | exact True.intro | exact chI_in' (by rw [partsV_len]; omega) | exact chJ_in | exact hcs _ (by omega) | exact fC_in | (show _ < _; omega) | exact cellsIn_map (fun _ => True.intro) | (intro c hc; cases hc; done) | (intro c hc; simp only [List.mem_cons, List.not_mem_nil, or_false] at hc; subst hc; exact True.intro) | (intro c hc; simp only [List.mem_cons, List.not_mem_nil, or_false] at hc; rcases hc with rfl | rfl <;> exact True.intro)))) (e1:=by first|rfl|(simp [mask,keepL, e1, ht2];done)|(simp [mask,keepL, e1, ht2]<;>simp_all<;>omega)) (e2:=by first|rfl|(simp [mask,keepL, e1, ht2];done)|(simp [mask,keepL, e1, ht2]<;>simp_all<;>omega)),?_,?_⟩
        · exact ⟨hlt, by rw [e1]; exact hcap⟩
        · simp only; omega
    · have ev : v = n := by omega
      subst ev
      have hnl : ¬ ((v : Int) < v) := by omega
      have hpos : 0 < (rootsL F v).length := List.length_pos_iff.2 fun h => by
        have h0 : 0 ∈ rootsL F v := rootsL_mem.2 ⟨by omega, by have := rootF_le hF (n := 12) (v := 0) (by omega); omega⟩
        rw [h] at h0; cases h0
      repeat' ((fail_if_success (with_reducible refine AWp.atSeq 12 ?_));(fail_if_success (with_reducible refine AWp.atLast 12 ?_));first|((first|(refine zT ?_;intro K' hK')|(refine zG ?_ ?_<;>(try refine zH ?_)<;>intro hguard<;>(try exact zX)<;>try intro K' hK'))<;>((try simp +contextual only [go_sem, hnl]);(repeat' first|(with_reducible refine hK' _ _ ?_;clear hK' K')|exact zY|with_reducible refine And.intro ?_ ?_|(with_reducible intro hpath;try exact zP)|(refine hK' _ _ ?_;clear hK' K')|fail);try refine zS ?_))|(refine zE ?_;refine hK _ _ ?_;clear hK K)|(refine zN ?_;try refine zS ?_)|refine zA ?_|(refine zB ?_;intro K hK)|(refine zC ?_ ?_<;>(try refine zH ?_)<;>intro hcond<;>try exact zX)|fail)
      refine AWp.vecData 5 3 4 ((partsV F v).map iRows) rfl rfl hpos hcap (by rw [List.length_map, partsV_len]) (by simp) ?_
      rw [chRows]
      simp only [List.set_cons_succ, List.set_cons_zero]
      refine AWp.weak (Weak.head2 (m := 2) (by first | omega | simp) ((fun t f => [f, f, f, f, f, t, f, f, f, f, f, f, f, f, f, f, f, f, f, f, f, f, f, f, f, f, f, f, f, f, f, f, f, f, f, f, f, f, f, f, f, f, f]) true false) rfl rfl (by (repeat' (first | exact valsIn_nil _ | exact blksIn_nil _ | exact cellsIn_nil _ | refine And.intro ?_ ?_ | refine valsIn_cons ?_ ?_ | refine blksIn_cons ?_ ?_ | refine cellsIn_cons ?_ ?_ | exact True.intro | exact chI_in' (by rw [partsV_len]; omega) | exact chJ_in | exact hcs _ (by omega) | exact fC_in | (show _ < _; omega) | exact cellsIn_map (fun _ => True.intro) | (intro c hc; cases hc; done) | (intro c hc; simp only [List.mem_cons, List.not_mem_nil, or_false] at hc; subst hc; exact True.intro) | (intro c hc; simp only [List.mem_cons, List.not_mem_nil, or_false] at hc; rcases hc with rfl | rfl <;> exact True.intro))))) ?_
      simp only [mask, List.take_succ_cons, List.take_zero, List.set_cons_succ, List.set_cons_zero]
      repeat' (first|((first|(refine zT ?_;intro K' hK')|(refine zG ?_ ?_<;>(try refine zH ?_)<;>intro hguard<;>(try exact zX)<;>try intro K' hK'))<;>((try simp +contextual only [go_sem]);(repeat' first|(with_reducible refine hK' _ _ ?_;clear hK' K')|exact zY|with_reducible refine And.intro ?_ ?_|(with_reducible intro hpath;try exact zP)|(refine hK' _ _ ?_;clear hK' K')|fail);try refine zS ?_))|(refine zE ?_;refine hK _ _ ?_;clear hK K)|(refine zN ?_;try refine zS ?_)|refine zA ?_|(refine zB ?_;intro K hK)|(refine zC ?_ ?_<;>(try refine zH ?_)<;>intro hcond<;>try exact zX)|fail)
      simp [RetsH, aretH, ares, noTup, Tryz.results174]
end Go.Proofs.YtfkegnhpihoncaaGreat
set_option linter.all false
namespace Go.Proofs.YtfkegnhpihoncaaGreat
set_option linter.unusedSimpArgs false
set_option linter.unusedVariables false
structure PermN (N : Nat) (f : Nat → Nat) : Prop where
  lt : ∀ x, x < N → f x < N
  inj : ∀ x y, x < N → y < N → f x = f y → x = y
def it (f : Nat → Nat) : Nat → Nat → Nat
  | 0, x => x
  | k + 1, x => f (it f k x)
theorem it_add (f : Nat → Nat) (a b x : Nat) : it f (a + b) x = it f a (it f b x) := by
  induction a with
  | zero => rw [Nat.zero_add]; rfl
  | succ a ih => rw [show a + 1 + b = (a + b) + 1 by omega]; simp only [it, ih]
section
variable {N : Nat} {f : Nat → Nat}
theorem PermN.it_lt (h : PermN N f) {x : Nat} (hx : x < N) (k : Nat) : it f k x < N := by
  induction k with
  | zero => exact hx
  | succ k ih => exact h.lt _ ih
theorem PermN.it_inj (h : PermN N f) {x y : Nat} (hx : x < N) (hy : y < N) (k : Nat) (e : it f k x = it f k y) : x = y := by
  induction k with
  | zero => exact e
  | succ k ih => exact ih (h.inj _ _ (h.it_lt hx k) (h.it_lt hy k) e)
theorem PermN.period (h : PermN N f) {x : Nat} (hx : x < N) : ∃ p, 1 ≤ p ∧ p ≤ N ∧ it f p x = x := by
  apply Classical.byContradiction
  intro hc
  have hne : ∀ i j : Nat, i < j → j ≤ N → it f i x ≠ it f j x := fun i j hij hj e => by
    refine hc ⟨j - i, by omega, by omega, ?_⟩
    have e2 : it f j x = it f i (it f (j - i) x) := by rw [← it_add]; congr 1; omega
    rw [e2] at e
    exact (h.it_inj hx (h.it_lt hx _) i e).symm
  have hnd : ((List.range (N + 1)).map fun k => it f k x).Nodup := by
    rw [List.Nodup, List.pairwise_map]
    exact List.pairwise_lt_range.imp_of_mem fun {a b} ha hb hab => hne a b hab (by have := List.mem_range.1 hb; omega)
  have hle := List.Nodup.length_le_of_subset hnd (l₂ := List.range N) (fun y hy => by
    obtain ⟨k, _, rfl⟩ := List.mem_map.1 hy
    exact List.mem_range.2 (h.it_lt hx k))
  simp at hle
  omega
def orbGo (f : Nat → Nat) (h : Nat) : Nat → Nat → List Nat
  | 0, _ => []
  | n + 1, x => if x = h then [] else x :: orbGo f h n (f x)
def faceF (f : Nat → Nat) (N h : Nat) : List Nat := h :: orbGo f h N (f h)
theorem orbGo_eq (f : Nat → Nat) (h : Nat) : ∀ (n k p : Nat), k ≤ p → p ≤ k + n → it f p h = h → (∀ i, k ≤ i → i < p → it f i h ≠ h) → orbGo f h n (it f k h) = (List.range (p - k)).map fun i => it f (k + i) h := by
  intro n
  induction n with
  | zero =>
    intro k p h1 h2 _ _
    rw [show p - k = 0 by omega]; rfl
  | succ n ih =>
    intro k p h1 h2 h3 h4
    by_cases e : k = p
    · subst e
      rw [Nat.sub_self]
      simp only [orbGo, h3, if_true, List.range_zero, List.map_nil]
    · have hk := h4 k (Nat.le_refl _) (by omega)
      simp only [orbGo, if_neg hk]
      have := ih (k + 1) p (by omega) (by omega) h3 fun i hi => h4 i (by omega)
      have e1 : f (it f k h) = it f (k + 1) h := rfl
      rw [e1, this, show p - k = (p - (k + 1)) + 1 by omega, List.range_succ_eq_map]
      simp only [List.map_cons, Nat.add_zero, List.map_map]
      congr 1
      refine List.map_congr_left fun i _ => ?_
      simp only [Function.comp]
      rw [show k + 1 + i = k + Nat.succ i by omega]
theorem least_period {f : Nat → Nat} {h : Nat} : ∀ p : Nat, 1 ≤ p → it f p h = h → ∃ q, 1 ≤ q ∧ q ≤ p ∧ it f q h = h ∧ ∀ i, 1 ≤ i → i < q → it f i h ≠ h := by
  intro p
  induction p using Nat.strongRecOn with
  | _ p ih =>
    intro h1 h2
    by_cases hx : ∃ i, 1 ≤ i ∧ i < p ∧ it f i h = h
    · obtain ⟨i, h3, h4, h5⟩ := hx
      obtain ⟨q, q1, q2, q3⟩ := ih i h4 h3 h5
      exact ⟨q, q1, by omega, q3⟩
    · exact ⟨p, h1, Nat.le_refl _, h2, fun i h3 h4 h5 => hx ⟨i, h3, h4, h5⟩⟩
theorem face_spec (hp : PermN N f) {h : Nat} (hh : h < N) : ∃ p, 1 ≤ p ∧ p ≤ N ∧ it f p h = h ∧ (∀ i, 1 ≤ i → i < p → it f i h ≠ h) ∧ faceF f N h = (List.range p).map fun i => it f i h := by
  obtain ⟨p0, h1, h2, h3⟩ := hp.period hh
  obtain ⟨p, q1, q2, q3, q4⟩ := least_period p0 h1 h3
  refine ⟨p, q1, by omega, q3, q4, ?_⟩
  have := orbGo_eq f h N 1 p q1 (by omega) q3 fun i hi => q4 i hi
  unfold faceF
  have e1 : f h = it f 1 h := rfl
  rw [e1, this]
  obtain ⟨m, rfl⟩ : ∃ m, p = m + 1 := ⟨p - 1, by omega⟩
  rw [Nat.add_sub_cancel, List.range_succ_eq_map]
  simp only [List.map_cons, List.map_map]
  congr 1
  refine List.map_congr_left fun i _ => ?_
  simp only [Function.comp]
  rw [show 1 + i = Nat.succ i by omega]
theorem it_mod {p h : Nat} (hp : 1 ≤ p) (e : it f p h = h) (i : Nat) : it f i h = it f (i % p) h := by
  have hm : ∀ k, it f (k * p) h = h := fun k => by
    induction k with
    | zero => rw [Nat.zero_mul]; rfl
    | succ k ih => rw [Nat.succ_mul, it_add, e, ih]
  have := Nat.div_add_mod i p
  calc it f i h = it f (i % p + (i / p) * p) h := by rw [Nat.mul_comm, Nat.add_comm, this]
    _ = it f (i % p) h := by rw [it_add, hm]
theorem face_mem (hp : PermN N f) {h : Nat} (hh : h < N) {y : Nat} : y ∈ faceF f N h ↔ ∃ i, y = it f i h := by
  obtain ⟨p, h1, h2, h3, h4, h5⟩ := face_spec hp hh
  rw [h5]
  constructor
  · intro hy
    obtain ⟨i, _, rfl⟩ := List.mem_map.1 hy
    exact ⟨i, rfl⟩
  · rintro ⟨i, rfl⟩
    rw [it_mod h1 h3 i]
    exact List.mem_map.2 ⟨i % p, List.mem_range.2 (Nat.mod_lt _ (by omega)), rfl⟩
theorem face_lt (hp : PermN N f) {h : Nat} (hh : h < N) {y : Nat} (hy : y ∈ faceF f N h) : y < N := by
  obtain ⟨i, rfl⟩ := (face_mem hp hh).1 hy
  exact hp.it_lt hh i
theorem face_self (f : Nat → Nat) (N h : Nat) : h ∈ faceF f N h := by simp [faceF]
theorem face_symm (hp : PermN N f) {h y : Nat} (hh : h < N) (hy : y ∈ faceF f N h) : h ∈ faceF f N y := by
  have hyl := face_lt hp hh hy
  obtain ⟨i, rfl⟩ := (face_mem hp hh).1 hy
  obtain ⟨p, h1, h2, h3, h4, h5⟩ := face_spec hp hh
  refine (face_mem hp hyl).2 ⟨p - i % p, ?_⟩
  rw [it_mod h1 h3 i, ← it_add, show p - i % p + i % p = p by have := Nat.mod_lt i (show p > 0 by omega); omega, h3]
theorem face_trans (hp : PermN N f) {h y z : Nat} (hh : h < N) (hy : y ∈ faceF f N h) (hz : z ∈ faceF f N y) : z ∈ faceF f N h := by
  have hyl := face_lt hp hh hy
  obtain ⟨i, rfl⟩ := (face_mem hp hh).1 hy
  obtain ⟨j, rfl⟩ := (face_mem hp hyl).1 hz
  exact (face_mem hp hh).2 ⟨j + i, by rw [it_add]⟩
theorem face_len (hp : PermN N f) {h : Nat} (hh : h < N) : (faceF f N h).length ≤ N := by
  obtain ⟨p, h1, h2, h3, h4, h5⟩ := face_spec hp hh
  rw [h5]; simpa using h2
def leadB (f : Nat → Nat) (N h : Nat) : Bool := (faceF f N h).all fun y => decide (h ≤ y)
def leadsL (f : Nat → Nat) (N k : Nat) : List Nat := (List.range k).filter (leadB f N)
def facesN (f : Nat → Nat) (N k : Nat) : List (List Nat) := (leadsL f N k).map (faceF f N)
def ofN (f : Nat → Nat) (N k x : Nat) : Int :=
  match (facesN f N k).findIdx? (fun l => decide (x ∈ l)) with
  | some i => i
  | none => -1
theorem leadB_iff {h : Nat} : leadB f N h = true ↔ ∀ y, y ∈ faceF f N h → h ≤ y := by simp [leadB]
theorem leadsL_mem {k h : Nat} : h ∈ leadsL f N k ↔ h < k ∧ leadB f N h = true := by simp [leadsL]
theorem leadsL_succ (k : Nat) : leadsL f N (k + 1) = if leadB f N k = true then leadsL f N k ++ [k] else leadsL f N k := by
  unfold leadsL
  rw [List.range_succ, List.filter_append]
  cases h : leadB f N k <;> simp [h]
theorem facesN_succ (k : Nat) : facesN f N (k + 1) = if leadB f N k = true then facesN f N k ++ [faceF f N k] else facesN f N k := by
  unfold facesN
  rw [leadsL_succ]
  cases h : leadB f N k <;> simp
theorem least_mem {l : List Nat} (h : l ≠ []) : ∃ m, m ∈ l ∧ ∀ y, y ∈ l → m ≤ y := by
  induction l with
  | nil => exact absurd rfl h
  | cons x l ih =>
    by_cases e : l = []
    · subst e; exact ⟨x, by simp, fun y hy => by simp at hy; omega⟩
    · obtain ⟨m, h1, h2⟩ := ih e
      by_cases hx : x ≤ m
      · exact ⟨x, by simp, fun y hy => by
          rcases List.mem_cons.1 hy with rfl | hy
          · exact Nat.le_refl _
          · exact Nat.le_trans hx (h2 y hy)⟩
      · exact ⟨m, by simp [h1], fun y hy => by
          rcases List.mem_cons.1 hy with rfl | hy
          · omega
          · exact h2 y hy⟩
theorem lead_of (hp : PermN N f) {h : Nat} (hh : h < N) : ∃ m, m ≤ h ∧ leadB f N m = true ∧ h ∈ faceF f N m ∧ (leadB f N h = false → m < h) := by
  obtain ⟨m, h1, h2⟩ := least_mem (l := faceF f N h) (by simp [faceF])
  have hml := face_lt hp hh h1
  have hs := face_symm hp hh h1
  refine ⟨m, h2 h (face_self f N h), leadB_iff.2 fun y hy => h2 y (face_trans hp hh h1 hy), hs, fun hb => ?_⟩
  rcases Nat.lt_or_eq_of_le (h2 h (face_self f N h)) with h3 | h3
  · exact h3
  · subst h3
    rw [leadB_iff.2 h2] at hb; cases hb
theorem lead_unique (hp : PermN N f) {a b x : Nat} (ha : a < N) (hb : b < N) (la : leadB f N a = true) (lb : leadB f N b = true) (xa : x ∈ faceF f N a) (xb : x ∈ faceF f N b) : a = b := by
  have h1 : b ∈ faceF f N a := face_trans hp ha xa (face_symm hp hb xb)
  have h2 : a ∈ faceF f N b := face_symm hp ha h1
  have := leadB_iff.1 la b h1
  have := leadB_iff.1 lb a h2
  omega
theorem ofN_neg (hp : PermN N f) {k : Nat} (hk : k < N) : ofN f N k k < 0 ↔ leadB f N k = true := by
  unfold ofN
  constructor
  · intro h
    cases hb : leadB f N k with
    | true => rfl
    | false =>
      obtain ⟨m, h1, h2, h3, h4⟩ := lead_of hp hk
      have hm := h4 hb
      cases hx : (facesN f N k).findIdx? (fun l => decide (k ∈ l)) with
      | some i => rw [hx] at h; simp only at h; omega
      | none =>
        exfalso
        rw [List.findIdx?_eq_none_iff] at hx
        have := hx (faceF f N m) (List.mem_map.2 ⟨m, leadsL_mem.2 ⟨hm, h2⟩, rfl⟩)
        simp [h3] at this
  · intro hb
    cases hx : (facesN f N k).findIdx? (fun l => decide (k ∈ l)) with
    | none => simp
    | some i =>
      exfalso
      obtain ⟨hi, hd, _⟩ := List.findIdx?_eq_some_iff_getElem.1 hx
      have hmem : (facesN f N k)[i] ∈ facesN f N k := List.getElem_mem hi
      obtain ⟨a, ha, e⟩ := List.mem_map.1 hmem
      obtain ⟨h1, h2⟩ := leadsL_mem.1 ha
      have hka : k ∈ faceF f N a := by rw [e]; simpa using hd
      have := lead_unique hp (by omega) hk h2 hb hka (face_self f N k)
      omega
theorem ofN_succ (hp : PermN N f) {k : Nat} (hk : k < N) (hb : leadB f N k = true) {x : Nat} : ofN f N (k + 1) x = if x ∈ faceF f N k then ((facesN f N k).length : Int) else ofN f N k x := by
  unfold ofN
  rw [facesN_succ, if_pos hb, List.findIdx?_append]
  by_cases hx : x ∈ faceF f N k
  · rw [if_pos hx]
    have hn : (facesN f N k).findIdx? (fun l => decide (x ∈ l)) = none := by
      rw [List.findIdx?_eq_none_iff]
      intro l hl
      obtain ⟨a, ha, rfl⟩ := List.mem_map.1 hl
      obtain ⟨h1, h2⟩ := leadsL_mem.1 ha
      rw [decide_eq_false_iff_not]
      intro hxa
      have := lead_unique hp (by omega) hk h2 hb hxa hx
      omega
    rw [hn]
    simp [List.findIdx?_cons, hx]
  · rw [if_neg hx]
    cases hc : (facesN f N k).findIdx? (fun l => decide (x ∈ l)) with
    | some i => simp
    | none => simp [List.findIdx?_cons, hx]
theorem ofN_same {k : Nat} (hb : leadB f N k = false) {x : Nat} : ofN f N (k + 1) x = ofN f N k x := by
  unfold ofN; rw [facesN_succ, hb]; simp
end
end Go.Proofs.YtfkegnhpihoncaaGreat
set_option linter.all false
namespace Go.Proofs.YtfkegnhpihoncaaGreat
open Go.Sp
set_option linter.unusedSimpArgs false
set_option linter.unusedVariables false
def atL (L : List (Int × Int)) (h : Nat) : Int := if h % 2 = 0 then (L.getD (h / 2) (0, 0)).1 else (L.getD (h / 2) (0, 0)).2
def ownL (L : List (Int × Int)) (v : Int) (k : Nat) : List Int := ((List.range k).filter fun h => decide (atL L h = v)).map fun h : Nat => (h : Int)
def halvesL (L : List (Int × Int)) (n k : Nat) : List (List Int) := (List.range n).map fun v : Nat => ownL L (v : Int) k
theorem ownL_succ (L : List (Int × Int)) (v : Int) (k : Nat) : ownL L v (k + 1) = if atL L k = v then ownL L v k ++ [(k : Int)] else ownL L v k := by
  unfold ownL
  rw [List.range_succ, List.filter_append]
  by_cases h : atL L k = v <;> simp [h]
theorem ownL_mem {L : List (Int × Int)} {v : Int} {k : Nat} {x : Int} : x ∈ ownL L v k ↔ 0 ≤ x ∧ x < k ∧ atL L x.toNat = v := by
  unfold ownL
  rw [List.mem_map]
  constructor
  · rintro ⟨h, hm, rfl⟩
    rw [List.mem_filter, List.mem_range, decide_eq_true_eq] at hm
    exact ⟨by omega, by omega, by simpa using hm.2⟩
  · rintro ⟨h1, h2, h3⟩
    refine ⟨x.toNat, ?_, by omega⟩
    rw [List.mem_filter, List.mem_range, decide_eq_true_eq]
    exact ⟨by omega, h3⟩
theorem ownL_sorted (L : List (Int × Int)) (v : Int) (k : Nat) : (ownL L v k).Pairwise (· < ·) := by
  unfold ownL
  rw [List.pairwise_map]
  exact (List.pairwise_lt_range.filter _).imp fun h => by omega
theorem ownL_len (L : List (Int × Int)) (v : Int) (k : Nat) : (ownL L v k).length ≤ k := by
  unfold ownL
  rw [List.length_map]
  exact Nat.le_trans (List.length_filter_le _ _) (by simp)
theorem halvesL_len (L : List (Int × Int)) (n k : Nat) : (halvesL L n k).length = n := by simp [halvesL]
theorem halvesL_get {L : List (Int × Int)} {n k v : Nat} (hv : v < n) : (halvesL L n k)[v]? = some (ownL L (v : Int) k) := by simp [halvesL, hv]
theorem halvesL_zero (L : List (Int × Int)) (n : Nat) : List.replicate n [] = halvesL L n 0 := by
  rw [halvesL, eq_comm, List.eq_replicate_iff]
  exact ⟨by simp, fun x hx => by obtain ⟨_, _, rfl⟩ := List.mem_map.1 hx; rfl⟩
theorem halvesL_succ {L : List (Int × Int)} {n k v : Nat} (hv : v < n) (h : atL L k = v) : halvesL L n (k + 1) = (halvesL L n k).set v (ownL L (v : Int) k ++ [(k : Int)]) := by
  apply List.ext_getElem?
  intro i
  by_cases hi : i < n
  · rw [halvesL_get hi, ownL_succ]
    by_cases e : v = i
    · subst e
      rw [List.getElem?_set_self (by rw [halvesL_len]; exact hv), if_pos h]
    · rw [List.getElem?_set_ne e, halvesL_get hi, if_neg (by omega)]
  · rw [List.getElem?_eq_none (by rw [halvesL_len]; omega), List.getElem?_eq_none (by rw [List.length_set, halvesL_len]; omega)]
def lstGo (own : List Int) : List Int → List Int → Int
  | _, [] => 0
  | pre, h :: t => if h ∈ own then (if h ∈ pre then 7 else lstGo own (pre ++ [h]) t) else 2
def lstErr (l own : List Int) : Int :=
  if l.length ≠ own.length then 8 else if lstGo own [] l ≠ 0 then lstGo own [] l else if l ≠ [] ∧ l.getD 0 0 ≠ own.getD 0 0 then 9 else 0
def chkGo (L : List (Int × Int)) (N : Nat) : Nat → List (List Int) → Int
  | _, [] => 0
  | v, l :: ar => if lstErr l (ownL L (v : Int) N) ≠ 0 then lstErr l (ownL L (v : Int) N) else chkGo L N (v + 1) ar
theorem lstGo_zero {own : List Int} : ∀ {pre l : List Int}, lstGo own pre l = 0 → (∀ x, x ∈ l → x ∈ own) ∧ l.Nodup ∧ ∀ x, x ∈ l → x ∉ pre
  | _, [], _ => ⟨fun x hx => (by cases hx), List.nodup_nil, fun x hx => (by cases hx)⟩
  | pre, h :: t, e => by
    simp only [lstGo] at e
    split at e
    · rename_i h1
      split at e
      · omega
      · rename_i h2
        obtain ⟨q1, q2, q3⟩ := lstGo_zero e
        refine ⟨fun x hx => ?_, List.nodup_cons.2 ⟨fun hm => q3 h hm (by simp), q2⟩, fun x hx => ?_⟩
        · rcases List.mem_cons.1 hx with rfl | hx
          · exact h1
          · exact q1 x hx
        · rcases List.mem_cons.1 hx with rfl | hx
          · exact h2
          · intro hp; exact q3 x hx (by simp [hp])
    · omega
structure LOk (l own : List Int) : Prop where
  nd : l.Nodup
  sub : ∀ x, x ∈ l → x ∈ own
  sup : ∀ x, x ∈ own → x ∈ l
  len : l.length = own.length
  hd : l = [] ∨ l.getD 0 0 = own.getD 0 0
theorem sup_of {l own : List Int} (h1 : l.Nodup) (h2 : ∀ x, x ∈ l → x ∈ own) (h3 : l.length = own.length) : ∀ x, x ∈ own → x ∈ l := by
  intro x hx
  apply Classical.byContradiction
  intro hn
  have := List.Nodup.length_le_of_subset (l₁ := x :: l) (l₂ := own) (List.nodup_cons.2 ⟨hn, h1⟩) (fun y hy => by
    rcases List.mem_cons.1 hy with rfl | hy
    · exact hx
    · exact h2 y hy)
  simp at this; omega
theorem lstErr_zero {l own : List Int} (h : lstErr l own = 0) : LOk l own := by
  unfold lstErr at h
  split at h
  · omega
  · rename_i h1
    split at h
    · omega
    · rename_i h2
      split at h
      · omega
      · rename_i h3
        simp only [ne_eq, Decidable.not_not] at h1 h2
        obtain ⟨q1, q2, _⟩ := lstGo_zero h2
        refine ⟨q2, q1, sup_of q2 q1 h1, h1, ?_⟩
        by_cases e : l = []
        · exact .inl e
        · exact .inr (Classical.byContradiction fun hn => h3 ⟨e, hn⟩)
theorem chkGo_zero {L : List (Int × Int)} {N : Nat} : ∀ {v : Nat} {ar : List (List Int)}, chkGo L N v ar = 0 → ∀ i l, ar[i]? = some l → LOk l (ownL L ((v + i : Nat) : Int) N)
  | v, [], _, i, l, hl => by simp at hl
  | v, x :: ar, h, i, l, hl => by
    simp only [chkGo] at h
    split at h
    · omega
    · rename_i h1
      simp only [ne_eq, Decidable.not_not] at h1
      cases i with
      | zero => simp at hl; subst hl; exact lstErr_zero h1
      | succ i =>
        have := chkGo_zero h i l (by simpa using hl)
        rwa [show v + 1 + i = v + (i + 1) by omega] at this
def oppH (h : Nat) : Nat := h + 1 - 2 * (h % 2)
def nextI (l : List Int) (x : Int) : Int := l.getD ((l.idxOf x + 1) % l.length) 0
def nextR (L : List (Int × Int)) (ar : List (List Int)) (h : Nat) : Int := nextI (ar.getD (atL L h).toNat []) (h : Int)
def fR (L : List (Int × Int)) (ar : List (List Int)) (h : Nat) : Nat := (nextR L ar (oppH h)).toNat
theorem oppH_lt {m h : Nat} (hh : h < 2 * m) : oppH h < 2 * m := by unfold oppH; omega
theorem oppH_opp (h : Nat) : oppH (oppH h) = h := by unfold oppH; omega
theorem nodup_at {α : Type} {l : List α} (hn : l.Nodup) {i j : Nat} (hi : i < l.length) (hj : j < l.length) (e : l[i] = l[j]) : i = j := by
  rw [List.Nodup, List.pairwise_iff_getElem] at hn
  rcases Nat.lt_trichotomy i j with h | h | h
  · exact absurd e (hn i j hi hj h)
  · exact h
  · exact absurd e.symm (hn j i hj hi h)
theorem getD_idx {l : List Int} {x : Int} (hx : x ∈ l) : l.idxOf x < l.length ∧ l[l.idxOf x]? = some x := by
  have h := List.idxOf_lt_length_of_mem hx
  exact ⟨h, by rw [List.getElem?_eq_getElem h, List.getElem_idxOf h]⟩
theorem nextI_mem {l : List Int} {x : Int} (hx : x ∈ l) : nextI l x ∈ l := by
  have h := (getD_idx hx).1
  unfold nextI
  rw [List.getD_eq_getElem?_getD, List.getElem?_eq_getElem (Nat.mod_lt _ (by omega))]
  exact List.getElem_mem _
theorem nextI_inj {l : List Int} (hn : l.Nodup) {x y : Int} (hx : x ∈ l) (hy : y ∈ l) (e : nextI l x = nextI l y) : x = y := by
  obtain ⟨h1, h2⟩ := getD_idx hx
  obtain ⟨h3, h4⟩ := getD_idx hy
  have m1 : (l.idxOf x + 1) % l.length < l.length := Nat.mod_lt _ (by omega)
  have m2 : (l.idxOf y + 1) % l.length < l.length := Nat.mod_lt _ (by omega)
  unfold nextI at e
  rw [List.getD_eq_getElem?_getD, List.getElem?_eq_getElem m1, List.getD_eq_getElem?_getD, List.getElem?_eq_getElem m2] at e
  simp only [Option.getD_some] at e
  have e2 := nodup_at hn m1 m2 e
  have key : ∀ a b c : Nat, a < c → b < c → (a + 1) % c = (b + 1) % c → a = b := fun a b c ha hb hab => by
    by_cases q1 : a + 1 = c
    · by_cases q2 : b + 1 = c
      · omega
      · rw [q1, Nat.mod_self, Nat.mod_eq_of_lt (by omega)] at hab; omega
    · by_cases q2 : b + 1 = c
      · rw [q2, Nat.mod_self, Nat.mod_eq_of_lt (by omega)] at hab; omega
      · rw [Nat.mod_eq_of_lt (by omega), Nat.mod_eq_of_lt (by omega)] at hab; omega
  have e3 := key _ _ _ h1 h3 e2
  rw [← Option.some.injEq, ← h2, ← h4, e3]
end Go.Proofs.YtfkegnhpihoncaaGreat
set_option linter.all false
namespace Go.Proofs.YtfkegnhpihoncaaGreat
open Go.Sp
set_option linter.unusedSimpArgs false
set_option linter.unusedVariables false
def connB (g : G) : Bool := decide (partsN g.es g.n.toNat g.n.toNat = 1)
def joinedE (g : G) : Int := if checkG g ≠ 0 then checkG g else if connB g = true then 0 else 13
def ribE (r : R) : Int := if joinedE r.g ≠ 0 then joinedE r.g else if (r.ar.length : Int) ≠ r.n then 8 else chkGo (endsL r.es) (2 * (endsL r.es).length) 0 r.ar
structure ROk (r : R) : Prop where
  c : checkG r.g = 0
  conn : connB r.g = true
  len : (r.ar.length : Int) = r.n
  l : ∀ (i : Nat) l, r.ar[i]? = some l → LOk l (ownL (endsL r.es) (i : Int) (2 * (endsL r.es).length))
theorem rok_of {r : R} (h : ribE r = 0) : ROk r := by
  unfold ribE joinedE at h
  by_cases h1 : checkG r.g ≠ 0
  · simp only [if_pos h1] at h; omega
  · rw [if_neg h1] at h
    by_cases h2 : connB r.g = true
    · rw [if_pos h2] at h
      by_cases h3 : (r.ar.length : Int) ≠ r.n
      · rw [if_neg (by omega), if_pos h3] at h; omega
      · rw [if_neg (by omega), if_neg h3] at h
        exact ⟨by omega, h2, by omega, fun i l hl => by have := chkGo_zero h i l hl; rwa [Nat.zero_add] at this⟩
    · rw [if_neg h2] at h; omega
section
variable {r : R}
theorem atL_range (hc : checkG r.g = 0) {h : Nat} (hh : h < 2 * (endsL r.es).length) : 0 ≤ atL (endsL r.es) h ∧ atL (endsL r.es) h < r.n := by
  have hm : h / 2 < (endsL r.es).length := by omega
  have he := ends_range hc (List.getElem_mem (l := endsL r.g.es) hm)
  unfold atL
  rw [List.getD_eq_getElem?_getD, List.getElem?_eq_getElem hm]
  simp only [Option.getD_some]
  split
  · exact he.1
  · exact he.2
theorem ROk.row (hr : ROk r) {h : Nat} (hh : h < 2 * (endsL r.es).length) : ∃ l, r.ar[(atL (endsL r.es) h).toNat]? = some l ∧ r.ar.getD (atL (endsL r.es) h).toNat [] = l ∧ LOk l (ownL (endsL r.es) (atL (endsL r.es) h) (2 * (endsL r.es).length)) ∧ (h : Int) ∈ l := by
  have ha := atL_range hr.c hh
  have hlt : (atL (endsL r.es) h).toNat < r.ar.length := by have := hr.len; omega
  have e := List.getElem?_eq_getElem hlt
  have hl := hr.l _ _ e
  rw [show (((atL (endsL r.es) h).toNat : Nat) : Int) = atL (endsL r.es) h by omega] at hl
  refine ⟨_, e, by rw [List.getD_eq_getElem?_getD, e]; rfl, hl, hl.sup _ (ownL_mem.2 ⟨by omega, by omega, by simp⟩)⟩
theorem ROk.next (hr : ROk r) {h : Nat} (hh : h < 2 * (endsL r.es).length) : 0 ≤ nextR (endsL r.es) r.ar h ∧ nextR (endsL r.es) r.ar h < (2 * (endsL r.es).length : Nat) ∧ atL (endsL r.es) (nextR (endsL r.es) r.ar h).toNat = atL (endsL r.es) h := by
  obtain ⟨l, h1, h2, h3, h4⟩ := hr.row hh
  unfold nextR
  rw [h2]
  exact ownL_mem.1 (h3.sub _ (nextI_mem h4))
theorem ROk.next_inj (hr : ROk r) {h k : Nat} (hh : h < 2 * (endsL r.es).length) (hk : k < 2 * (endsL r.es).length) (e : nextR (endsL r.es) r.ar h = nextR (endsL r.es) r.ar k) : h = k := by
  have a1 := (hr.next hh).2.2
  have a2 := (hr.next hk).2.2
  rw [e] at a1
  have a3 := a1.symm.trans a2
  obtain ⟨l, h1, h2, h3, h4⟩ := hr.row hh
  obtain ⟨l', h1', h2', h3', h4'⟩ := hr.row hk
  rw [a3, h1'] at h1
  cases h1
  unfold nextR at e
  rw [h2, h2'] at e
  have := nextI_inj h3.nd h4 h4' e
  omega
theorem ROk.perm (hr : ROk r) : PermN (2 * (endsL r.es).length) (fR (endsL r.es) r.ar) := by
  refine ⟨fun x hx => ?_, fun x y hx hy e => ?_⟩
  · have := hr.next (oppH_lt hx)
    unfold fR; omega
  · have h1 := hr.next (oppH_lt hx)
    have h2 := hr.next (oppH_lt hy)
    unfold fR at e
    have := hr.next_inj (oppH_lt hx) (oppH_lt hy) (by omega)
    rw [← oppH_opp x, this, oppH_opp]
end
end Go.Proofs.YtfkegnhpihoncaaGreat
set_option linter.all false
namespace Go.Proofs.YtfkegnhpihoncaaGreat
open Go.Sp
set_option linter.unusedSimpArgs false
set_option linter.unusedVariables false
set_option maxHeartbeats 4000000
set_option maxRecDepth 100000
theorem pairs_mem {g : G} (hc : checkG g = 0) (p : Int × Int) : p ∈ pairsE g.es ↔ p ∈ endsL g.es := by
  constructor
  · intro h
    obtain ⟨e, he, rfl⟩ := List.mem_map.1 h
    have := (checkG_zero.1 hc).2.1 e he
    unfold okE at this
    exact List.mem_flatMap.2 ⟨e, he, List.mem_replicate.2 ⟨by omega, rfl⟩⟩
  · intro h
    obtain ⟨e, he, rfl⟩ := endsL_mem h
    exact List.mem_map.2 ⟨e, he, rfl⟩
theorem roots_count {F : List Nat} (hF : FOk F) : ∀ n, n ≤ 12 → rootsN F n = (rootsL F n).length := by
  intro n
  induction n with
  | zero => intro _; rfl
  | succ n ih =>
    intro hn
    rw [rootsL_succ]
    simp only [rootsN, ih (by omega)]
    by_cases h : rootF F 12 n = n
    · rw [if_pos h, if_pos ((root_iff hF (by omega)).1 h)]; simp
    · rw [if_neg h, if_neg (fun e => h ((root_iff hF (by omega)).2 e))]; simp
theorem roots_same {l m : List (Int × Int)} (hl : In12 l) (hm : In12 m) (h : ∀ p, p ∈ l ↔ p ∈ m) : ∀ n, n ≤ 12 → rootsN (genS l).1 n = rootsN (genS m).1 n := by
  intro n
  induction n with
  | zero => intro _; rfl
  | succ n ih =>
    intro hn
    simp only [rootsN, ih (by omega)]
    have h1 := isRoot_iff hl (v := n) (by omega)
    have h2 := isRoot_iff hm (v := n) (by omega)
    have h3 : (∃ u, u < n ∧ Conn l u n) ↔ (∃ u, u < n ∧ Conn m u n) :=
      ⟨fun ⟨u, h4, h5⟩ => ⟨u, h4, h5.mono fun p hp => (h p).1 hp⟩, fun ⟨u, h4, h5⟩ => ⟨u, h4, h5.mono fun p hp => (h p).2 hp⟩⟩
    by_cases e : (genS l).1[n]? = some n
    · rw [if_pos e, if_pos (h2.2 fun x => h1.1 e (h3.2 x))]
    · rw [if_neg e, if_neg (fun x => e (h1.2 fun y => h2.1 x (h3.1 y)))]
theorem cparts_count {g : G} {n : Nat} (hc : checkG g = 0) (hn : g.n = n) : (partsV (genS (pairsE g.es)).1 n).length = partsN g.es n n := by
  have h12 := (checkG_zero.1 hc).1
  have hp := pairs_in12 hc
  have he : In12 (endsL g.es) := fun p h => hp p ((pairs_mem hc p).2 h)
  have h1 := parts_roots hc hn n (Nat.le_refl _)
  have h2 := roots_same hp he (pairs_mem hc) n (by omega)
  have h3 := roots_count (uf _ hp).ok n (by omega)
  rw [partsV_len]; omega
theorem Components_ok (g : G) (hl : g.es.length < 2 ^ 30) : ACall Tryz.prog 145 [tG g] (.tup [tlists (if checkG g ≠ 0 then [] else partsV (genS (pairsE g.es)).1 g.n.toNat), tint (checkG g)]) := by
  have hC := Check_ok g (by omega)
  by_cases hc : checkG g = 0
  · have hJ := cjoined_ok g hc hl
    have hF := (uf _ (pairs_in12 hc)).ok
    have h12 := (checkG_zero.1 hc).1
    rw [if_neg (by omega), hc]
    rw [hc] at hC
    have hlF := hF.len
    unfold tF at hJ
    obtain ⟨n, es⟩ := g
    simp only at hJ h12 ⊢
    generalize (genS (pairsE es)).1 = F at *
    have hP3 := cparts_ok F hF n.toNat (by omega) (by omega) [.int .i64 n, .slice (eRows es) .none] (fun m _ c hc => by
      simp only [List.mem_cons, List.not_mem_nil, or_false] at hc
      rcases hc with rfl | rfl <;> exact True.intro) (fun c hc => by
      simp only [List.mem_cons, List.not_mem_nil, or_false] at hc
      rcases hc with rfl | rfl <;> rfl)
    rw [show ((n.toNat : Nat) : Int) = n by omega] at hP3
    generalize partsV F n.toNat = ps at *
    have hof : (fT F).map ofTree = fC F := fT_of F
    have hst := fC_store zero12 F (by rw [hlF]; rfl)
    have hz : fC zero12 = [.int .i64 0, .int .i64 0, .int .i64 0, .int .i64 0, .int .i64 0, .int .i64 0, .int .i64 0, .int .i64 0, .int .i64 0, .int .i64 0, .int .i64 0, .int .i64 0] := rfl
    rw [hz] at hst
    refine ACall.of_body Tryz.func145 rfl (by kernel_rfl) ?_
    simp only [entry, Tryz.ntmps145, tG]
    refine zU ?_
    repeat' (first|((first|(refine zT ?_;intro K' hK')|(refine zG ?_ ?_<;>(try refine zH ?_)<;>intro hguard<;>(try exact zX)<;>try intro K' hK'))<;>((try simp +contextual only [go_sem, fC_len, fC_free, hof, hst, hlF]);(repeat' first|(with_reducible refine hK' _ _ ?_;clear hK' K')|((with_reducible first|refine zK hC ?_|refine zK hJ ?_|refine ⟨_,_,hP3,?_⟩|refine ⟨_,hP3,?_⟩);try simp +contextual only [go_sem, fC_len, fC_free, hof, hst, hlF])|exact zY|with_reducible refine And.intro ?_ ?_|(with_reducible intro hpath;try exact zP)|(refine hK' _ _ ?_;clear hK' K')|fail);try refine zS ?_))|(refine zE ?_;refine hK _ _ ?_;clear hK K)|(refine zN ?_;try refine zS ?_)|refine zA ?_|(refine zB ?_;intro K hK)|(refine zC ?_ ?_<;>(try refine zH ?_)<;>intro hcond<;>try exact zX)|fail)
    simp [Rets, aret, Blk.cells, ty, Tryz.results145, ares, toT1, toT, borrow, borrow0, capCell, toTree0, tint, tlists]
  · rw [if_pos hc]
    generalize checkG g = E at *
    obtain ⟨n, es⟩ := g
    refine ACall.of_body Tryz.func145 rfl (by kernel_rfl) ?_
    simp only [entry, Tryz.ntmps145, tG]
    refine zU ?_
    repeat' (first|((first|(refine zT ?_;intro K' hK')|(refine zG ?_ ?_<;>(try refine zH ?_)<;>intro hguard<;>(try exact zX)<;>try intro K' hK'))<;>((try simp +contextual only [go_sem, hc]);(repeat' first|(with_reducible refine hK' _ _ ?_;clear hK' K')|(with_reducible refine zK hC ?_;try simp +contextual only [go_sem, hc])|exact zY|with_reducible refine And.intro ?_ ?_|(with_reducible intro hpath;try exact zP)|(refine hK' _ _ ?_;clear hK' K')|fail);try refine zS ?_))|(refine zE ?_;refine hK _ _ ?_;clear hK K)|(refine zN ?_;try refine zS ?_)|refine zA ?_|(refine zB ?_;intro K hK)|(refine zC ?_ ?_<;>(try refine zH ?_)<;>intro hcond<;>try exact zX)|fail)
    simp [Rets, aret, Blk.cells, ty, Tryz.results145, ares, toT1, toT, borrow, borrow0, capCell, toTree0, tint, tlists, llRows]
theorem Connected_ok (g : G) (hl : g.es.length < 2 ^ 30) : ACall Tryz.prog 109 [tG g] (.tup [tbool (decide (checkG g = 0) && connB g), tint (checkG g)]) := by
  have hC := Components_ok g hl
  by_cases hc : checkG g = 0
  · have h12 := (checkG_zero.1 hc).1
    have hcnt := cparts_count (n := g.n.toNat) hc (by omega)
    rw [if_neg (by omega)] at hC
    have hb : (decide (checkG g = 0) && connB g) = decide (((partsV (genS (pairsE g.es)).1 g.n.toNat).length : Int) = 1) := by
      rw [decide_eq_true hc, Bool.true_and]
      unfold connB
      rw [← hcnt]
      exact decide_eq_decide.2 (by omega)
    rw [hb]
    generalize partsV (genS (pairsE g.es)).1 g.n.toNat = ps at *
    generalize checkG g = E at *
    obtain ⟨n, es⟩ := g
    refine ACall.of_body Tryz.func109 rfl (by kernel_rfl) ?_
    simp only [entry, Tryz.ntmps109, tG]
    refine zU ?_
    repeat' (first|((first|(refine zT ?_;intro K' hK')|(refine zG ?_ ?_<;>(try refine zH ?_)<;>intro hguard<;>(try exact zX)<;>try intro K' hK'))<;>((try simp +contextual only [go_sem, llRows_len]);(repeat' first|(with_reducible refine hK' _ _ ?_;clear hK' K')|(with_reducible refine zK hC ?_;try simp +contextual only [go_sem, llRows_len])|exact zY|with_reducible refine And.intro ?_ ?_|(with_reducible intro hpath;try exact zP)|(refine hK' _ _ ?_;clear hK' K')|fail);try refine zS ?_))|(refine zE ?_;refine hK _ _ ?_;clear hK K)|(refine zN ?_;try refine zS ?_)|refine zA ?_|(refine zB ?_;intro K hK)|(refine zC ?_ ?_<;>(try refine zH ?_)<;>intro hcond<;>try exact zX)|fail)
    simp [Rets, aret, Blk.cells, ty, Tryz.results109, ares, toT1, toT, borrow, borrow0, capCell, toTree0, tint, tbool]
  · rw [if_pos hc] at hC
    rw [decide_eq_false hc, Bool.false_and]
    generalize checkG g = E at *
    obtain ⟨n, es⟩ := g
    refine ACall.of_body Tryz.func109 rfl (by kernel_rfl) ?_
    simp only [entry, Tryz.ntmps109, tG]
    refine zU ?_
    repeat' (first|((first|(refine zT ?_;intro K' hK')|(refine zG ?_ ?_<;>(try refine zH ?_)<;>intro hguard<;>(try exact zX)<;>try intro K' hK'))<;>((try simp +contextual only [go_sem, llRows_len]);(repeat' first|(with_reducible refine hK' _ _ ?_;clear hK' K')|(with_reducible refine zK hC ?_;try simp +contextual only [go_sem, llRows_len])|exact zY|with_reducible refine And.intro ?_ ?_|(with_reducible intro hpath;try exact zP)|(refine hK' _ _ ?_;clear hK' K')|fail);try refine zS ?_))|(refine zE ?_;refine hK _ _ ?_;clear hK K)|(refine zN ?_;try refine zS ?_)|refine zA ?_|(refine zB ?_;intro K hK)|(refine zC ?_ ?_<;>(try refine zH ?_)<;>intro hcond<;>try exact zX)|fail)
    simp [Rets, aret, Blk.cells, ty, Tryz.results109, ares, toT1, toT, borrow, borrow0, capCell, toTree0, tint, tbool]
end Go.Proofs.YtfkegnhpihoncaaGreat
