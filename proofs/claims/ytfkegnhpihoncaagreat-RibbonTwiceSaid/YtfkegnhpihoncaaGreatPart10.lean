/- A part of the proof: contracts of functions of the program, and plain lemmas. -/
import Derived.Test.YtfkegnhpihoncaaGreatPart09
import Derived.Test.YtfkegnhpihoncaaGreatPart05
import Derived.Test.YtfkegnhpihoncaaGreatLayerC
set_option linter.all false
namespace Go.Proofs.YtfkegnhpihoncaaGreat
open Go.Sp
set_option linter.unusedSimpArgs false
set_option linter.unusedVariables false
def rootsL (F : List Nat) (v : Nat) : List Nat := (List.range v).filter fun u => decide (rootF F 12 u = u)
def partV (F : List Nat) (v r : Nat) : List Int := ((List.range v).filter fun u => decide (rootF F 12 u = r)).map fun u : Nat => (u : Int)
def partsV (F : List Nat) (v : Nat) : List (List Int) := (rootsL F v).map (partV F v)
theorem rootsL_nodup (F : List Nat) (v : Nat) : (rootsL F v).Nodup := List.Nodup.sublist List.filter_sublist List.nodup_range
theorem rootsL_mem {F : List Nat} {v u : Nat} : u ∈ rootsL F v ↔ u < v ∧ rootF F 12 u = u := by simp [rootsL]
theorem rootsL_succ (F : List Nat) (v : Nat) : rootsL F (v + 1) = if rootF F 12 v = v then rootsL F v ++ [v] else rootsL F v := by
  unfold rootsL
  rw [List.range_succ, List.filter_append]
  by_cases h : rootF F 12 v = v <;> simp [h]
theorem rootsL_len (F : List Nat) (v : Nat) : (rootsL F v).length ≤ v := by
  unfold rootsL
  exact Nat.le_trans (List.length_filter_le _ _) (by simp)
theorem partV_succ (F : List Nat) (v r : Nat) : partV F (v + 1) r = if rootF F 12 v = r then partV F v r ++ [(v : Int)] else partV F v r := by
  unfold partV
  rw [List.range_succ, List.filter_append]
  by_cases h : rootF F 12 v = r <;> simp [h]
theorem parts_new {F : List Nat} (hF : FOk F) {v : Nat} (hv : v < 12) (h : rootF F 12 v = v) : partsV F (v + 1) = partsV F v ++ [[(v : Int)]] := by
  unfold partsV
  rw [rootsL_succ, if_pos h, List.map_append]
  congr 1
  · refine List.map_congr_left fun r hr => ?_
    have := (rootsL_mem.1 hr).1
    rw [partV_succ, if_neg (by omega)]
  · simp only [List.map_cons, List.map_nil]
    rw [partV_succ, if_pos h]
    have : partV F v v = [] := by
      unfold partV
      rw [List.map_eq_nil_iff, List.filter_eq_nil_iff]
      intro u hu
      have hu' := List.mem_range.1 hu
      have := rootF_le hF (n := 12) (v := u) (by omega)
      simp only [decide_eq_true_eq]; omega
    rw [this]; rfl
theorem parts_old {F : List Nat} {v k : Nat} (h : rootF F 12 v ≠ v) {r : Nat} (hk : (rootsL F v)[k]? = some r) (hr : rootF F 12 v = r) : (rootsL F (v + 1)) = rootsL F v ∧ (partsV F v)[k]? = some (partV F v r) ∧ partsV F (v + 1) = (partsV F v).set k (partV F v r ++ [(v : Int)]) := by
  have e1 : rootsL F (v + 1) = rootsL F v := by rw [rootsL_succ, if_neg h]
  refine ⟨e1, by simp [partsV, hk], ?_⟩
  unfold partsV
  rw [e1]
  apply List.ext_getElem?
  intro i
  have hkl := (List.getElem?_eq_some_iff.1 hk).1
  by_cases e : k = i
  · subst e
    rw [List.getElem?_set_self (by simpa using hkl), List.getElem?_map, hk]
    simp only [Option.map_some]
    rw [partV_succ, if_pos hr]
  · rw [List.getElem?_set_ne e, List.getElem?_map, List.getElem?_map]
    cases hi : (rootsL F v)[i]? with
    | none => rfl
    | some s =>
      simp only [Option.map_some]
      rw [partV_succ, if_neg]
      intro hs
      obtain ⟨hil, e2⟩ := List.getElem?_eq_some_iff.1 hi
      obtain ⟨_, e3⟩ := List.getElem?_eq_some_iff.1 hk
      have hnd := rootsL_nodup F v
      rw [List.Nodup, List.pairwise_iff_getElem] at hnd
      have e4 : (rootsL F v)[k] = (rootsL F v)[i] := by rw [e2, e3, ← hr, hs]
      rcases Nat.lt_or_gt_of_ne e with h | h
      · exact hnd k i hkl hil h e4
      · exact hnd i k hil hkl h e4.symm
def mR : Nat → List Nat → List (MKey × MV)
  | _, [] => []
  | b, r :: l => (.int r, .c (.int .i64 (b : Int))) :: mR (b + 1) l
theorem mR_none : ∀ (b : Nat) (l : List Nat) (r : Nat), r ∉ l → mIdx (mR b l) (.int r) = none
  | b, [], r, _ => rfl
  | b, x :: l, r, h => by
    have h1 : ¬ x = r := fun e => h (by simp [e])
    have h2 := mR_none (b + 1) l r (fun hm => h (by simp [hm]))
    unfold mIdx at h2 ⊢
    simp only [mR, List.findIdx?_cons, h2, Option.map_none]
    rw [if_neg]
    intro e
    have : (MKey.int (x : Int)) = .int r := by simpa using e
    injection this with e
    exact h1 (by omega)
theorem mR_at : ∀ (b : Nat) (l : List Nat) (k r : Nat), l.Nodup → l[k]? = some r → mIdx (mR b l) (.int r) = some k ∧ (mR b l)[k]? = some (.int r, .c (.int .i64 ((b + k : Nat) : Int)))
  | b, [], k, r, _, h => by simp at h
  | b, x :: l, 0, r, _, h => by
    simp at h; subst h
    simp [mIdx, mR, List.findIdx?_cons]
  | b, x :: l, k + 1, r, hn, h => by
    rw [List.nodup_cons] at hn
    have h' : l[k]? = some r := by simpa using h
    obtain ⟨q1, q2⟩ := mR_at (b + 1) l k r hn.2 h'
    have h1 : ¬ x = r := fun e => hn.1 (by rw [e]; exact List.mem_of_getElem? h')
    constructor
    · unfold mIdx at q1 ⊢
      simp only [mR, List.findIdx?_cons, q1, Option.map_some]
      rw [if_neg]
      intro e
      have : (MKey.int (x : Int)) = .int r := by simpa using e
      injection this with e
      exact h1 (by omega)
    · simp only [mR, List.getElem?_cons_succ, q2]
      rw [show b + 1 + k = b + (k + 1) by omega]
theorem mR_val {l : List Nat} {k r : Nat} (hn : l.Nodup) (h : l[k]? = some r) (z : MV) : mVal (mR 0 l) (.int r) z = .c (.int .i64 (k : Int)) := by
  obtain ⟨q1, q2⟩ := mR_at 0 l k r hn h
  unfold mVal
  simp [q1, q2]
theorem mR_snoc : ∀ (b : Nat) (l : List Nat) (r : Nat), mR b (l ++ [r]) = mR b l ++ [(.int r, .c (.int .i64 ((b + l.length : Nat) : Int)))]
  | b, [], r => by simp [mR]
  | b, x :: l, r => by
    have := mR_snoc (b + 1) l r
    simp only [List.cons_append, mR, this, List.length_cons]
    rw [show b + 1 + l.length = b + (l.length + 1) by omega]
theorem mR_put {l : List Nat} {r : Nat} (h : r ∉ l) : mPut (mR 0 l) (.int r) (.c (.int .i64 (l.length : Int))) = mR 0 (l ++ [r]) := by
  unfold mPut
  rw [mR_none 0 l r h, mR_snoc]
  simp
theorem klInts_ok : ∀ {b : Nat} {l : List Nat}, ∀ e, e ∈ mR b l → KShape.ok .int e.1 = true
  | b, [], e, h => by simp [mR] at h
  | b, x :: l, e, h => by
    rcases List.mem_cons.1 h with rfl | h
    · rfl
    · exact klInts_ok e h
end Go.Proofs.YtfkegnhpihoncaaGreat
set_option linter.all false
namespace Go.Proofs.YtfkegnhpihoncaaGreat
open Go.Sp
set_option linter.unusedSimpArgs false
set_option linter.unusedVariables false
set_option maxHeartbeats 4000000
set_option maxRecDepth 100000
theorem fC_in {m : Nat} {F : List Nat} : Go.Sp.cellsIn m (fC F) := cellsIn_map fun _ => True.intro
def tF (F : List Nat) : TVal := .agg (fT F)
theorem fT_of (F : List Nat) : (fT F).map ofTree = fC F := by simp [fT, fC, ofTree]
theorem fC_store (Z F : List Nat) (h : Z.length = F.length) : setMany (fC Z) 0 (fC F) = fC F := by
  apply List.ext_getElem?
  intro i
  rw [setMany_get _ _ _ _ (by simp [fC_len, h])]
  by_cases hi : i < F.length
  · rw [if_pos ⟨Nat.zero_le _, by rw [fC_len]; omega⟩, Nat.sub_zero]
  · rw [if_neg (by rw [fC_len]; omega), List.getElem?_eq_none (by rw [fC_len]; omega), List.getElem?_eq_none (by rw [fC_len]; omega)]
theorem fC_free : ∀ F : List Nat, anyFree (fC F) = true
  | [] => rfl
  | _ :: F => fC_free F
theorem fC_borrow (H : List Blk) : ∀ F : List Nat, (fC F).mapM (borrow H) = some (fT F)
  | [] => rfl
  | x :: F => by
    have ih := fC_borrow H F
    simp only [fC, fT, List.map_cons, List.mapM_cons] at ih ⊢
    rw [ih]; rfl
theorem cgrown_ok : ACall Tryz.prog 188 [] (tF (List.range 12)) := by
  refine ACall.of_body Tryz.func188 rfl (by kernel_rfl) ?_
  simp only [entry, Tryz.ntmps188]
  refine zU ?_
  refine zR trivial trivial trivial ?_
  refine AWp.loopS (α:=Nat) 11 (fun i=>[(0,.c (.ptr 0 0)),(1,.c (.ptr 1 0)),(3,.c (.int .i64 (i : Int)))]) (fun i=>[.box (fC (List.replicate 12 0)), .box (fC (initF i))]) (fun i=>i ≤ 12) (fun i=>12 - i) (0) (hk:=Weak.headL 2 11 [0, 1, 3] (zV @fC_in)) (h0:=?_) (round:=fun i hI=>?_)
  · exact Nat.zero_le _
  · by_cases hlt : i < 12
    · have hset := initF_set hlt
      have hlen := initF_len hI
      generalize initF i = F at *
      refine zR (zc @fC_len (zc @hlen (zc @fC_set (zc @fC_set2 (zc @hset trivial))))) trivial trivial ?_
      refine ⟨i + 1,Weak.headN 2 11 [0, 1, 3] (zV @fC_in),?_,?_⟩
      · exact hlt
      · omega
    · have ei : i = 12 := by omega
      subst ei
      rw [initF_12]
      have hl : (List.range 12).length = 12 := List.length_range
      generalize List.range 12 = F at *
      have ht : (fC F).take 12 = fC F := List.take_of_length_le (by rw [fC_len, hl]; exact Nat.le_refl _)
      have hs := fC_store (List.replicate 12 0) F (by simp [hl])
      have hlr : (List.replicate 12 0 : List Nat).length = 12 := by simp
      generalize List.replicate 12 0 = Z at *
      refine zR (zc @fC_len (zc @hl (zc @hlr (zc @ht (zc @hs (zc @fC_free trivial)))))) trivial trivial ?_
      have hm := fC_borrow [Blk.box (fC F), Blk.box (fC F)] F
      simp [Rets, aret, Blk.cells, ty, Tryz.results188, ares, toT1, toT, borrow, borrow0, capCell, toTree0, hm, hl, ht, fC_len, tF]
theorem croot_ok (F : List Nat) (h : FOk F) (v : Nat) (hv : v < 12) : ACall Tryz.prog 190 [.t (.rptr (fT F)), tint v] (tint (rootF F 12 v)) := by
  have hF := h.len
  refine ACall.of_body Tryz.func190 rfl (by kernel_rfl) ?_
  simp only [entry, Tryz.ntmps190, tint]
  refine zU ?_
  refine zR trivial trivial trivial ?_
  refine AWp.loopS (α:=Nat) 18 (fun u=>[(0,.c (.rptr (fT F))),(1,.c (.int .i64 (u : Int)))]) (fun u=>[]) (fun u=>u < 12 ∧ rootF F 12 v = rootF F 12 u) (fun u=>u) (v) (hk:=Weak.headL 0 18 [0, 1] (zV @fC_in)) (h0:=?_) (round:=fun u hI=>?_)
  · exact ⟨hv, rfl⟩
  · obtain ⟨hu, hx⟩ := hI
    have hul : u < F.length := by omega
    have e1 := fT_drop hul
    have e2 := rootF_step h hul
    have e3 := h.le u hul
    repeat' (first|((first|(refine zT ?_;intro K' hK')|(refine zG ?_ ?_<;>(try refine zH ?_)<;>intro hguard<;>(try exact zX)<;>try intro K' hK'))<;>((try simp +contextual only [go_sem, e1, Int.toNat_natCast, Nat.mul_one]);(repeat' first|(with_reducible refine hK' _ _ ?_;clear hK' K')|exact zY|with_reducible refine And.intro ?_ ?_|(with_reducible intro hpath;try exact zP)|(refine hK' _ _ ?_;clear hK' K')|fail);try refine zS ?_))|(refine zE ?_;refine hK _ _ ?_;clear hK K)|(refine zN ?_;try refine zS ?_)|refine zA ?_|(refine zB ?_;intro K hK)|(refine zC ?_ ?_<;>(try refine zH ?_)<;>intro hcond<;>try exact zX)|fail)
    · rw [if_neg (by omega)] at e2
      refine ⟨F[u],Weak.headN 0 18 [0, 1] (zV @fC_in),?_,?_⟩
      · exact ⟨by omega, by rw [hx, e2]⟩
      · omega
    · rw [if_pos (by omega)] at e2
      have e : rootF F 12 v = u := by rw [hx, e2]
      simp [Rets, aret, Blk.cells, ty, Tryz.results190, ares, toT1, toT, borrow, borrow0, capCell, toTree0, tint, e]
theorem croot_call (F : List Nat) (h : FOk F) (v : Nat) (hv : v < 12) {H : List Blk} {id : Nat} (hb : H[id]? = some (.box (fC F))) :
    ACallH Tryz.prog 190 H [.c (.ptr id 0), .c (.int .i64 (v : Int))] H (.c (.int .i64 (rootF F 12 v : Nat))) :=
  ACall.hb (croot_ok F h v hv) (by simp [toT, borrow, borrow0, hb, Blk.cells, mapM_fT, toTree0, tint]) rfl
theorem cjoin_ok (F : List Nat) (h : FOk F) (a b : Nat) (ha : a < 12) (hb : b < 12) {H : List Blk} {id : Nat} (hid : H[id]? = some (.box (fC F))) :
    ACallH Tryz.prog 189 H [.c (.ptr id 0), .c (.int .i64 (a : Int)), .c (.int .i64 (b : Int))] (H.set id (.box (fC (F.set (max (rootF F 12 a) (rootF F 12 b)) (min (rootF F 12 a) (rootF F 12 b)))))) (.tup []) := by
  have rx := croot_call F h a ha hid
  have ry := croot_call F h b hb hid
  have la := rootF_le h (n := 12) ha
  have lb := rootF_le h (n := 12) hb
  generalize rootF F 12 a = x at *
  generalize rootF F 12 b = y at *
  have hmax : max (x : Int) (y : Int) = ((max x y : Nat) : Int) := by omega
  have hmin : min (x : Int) (y : Int) = ((min x y : Nat) : Int) := by omega
  refine ACallH.of_body Tryz.func189 rfl (by kernel_rfl) ?_
  simp only [entry, Tryz.ntmps189, List.length_cons, List.length_nil, Nat.reduceAdd, Nat.reduceSub, List.replicate_succ, List.replicate_zero, List.cons_append, List.nil_append]
  repeat' (first|((first|(refine zT ?_;intro K' hK')|(refine zG ?_ ?_<;>(try refine zH ?_)<;>intro hguard<;>(try exact zX)<;>try intro K' hK'))<;>((try simp +contextual only [go_sem, Int.toNat_natCast, Nat.mul_one, fC_len, fC_set, fC_set2, hmax, hmin, h.len, hid]);(repeat' first|(with_reducible refine hK' _ _ ?_;clear hK' K')|((with_reducible first|refine ⟨_,_,rx,?_⟩|refine ⟨_,rx,?_⟩|refine ⟨_,_,ry,?_⟩|refine ⟨_,ry,?_⟩);try simp +contextual only [go_sem, Int.toNat_natCast, Nat.mul_one, fC_len, fC_set, fC_set2, hmax, hmin, h.len, hid])|exact zY|with_reducible refine And.intro ?_ ?_|(with_reducible intro hpath;try exact zP)|(refine hK' _ _ ?_;clear hK' K')|fail);try refine zS ?_))|(refine zE ?_;refine hK _ _ ?_;clear hK K)|(refine zN ?_;try refine zS ?_)|refine zA ?_|(refine zB ?_;intro K hK)|(refine zC ?_ ?_<;>(try refine zH ?_)<;>intro hcond<;>try exact zX)|fail)
  simp [RetsH, aretH, ares, noTup, Tryz.results189]
end Go.Proofs.YtfkegnhpihoncaaGreat
set_option linter.all false
namespace Go.Proofs.YtfkegnhpihoncaaGreat
open Go.Sp
set_option linter.unusedSimpArgs false
set_option linter.unusedVariables false
set_option maxHeartbeats 4000000
set_option maxRecDepth 100000
def pairsE (es : List E) : List (Int × Int) := es.map fun e => (e.a, e.b)
theorem pairs_range {g : G} (hc : checkG g = 0) {p : Int × Int} (h : p ∈ pairsE g.es) : (0 ≤ p.1 ∧ p.1 < g.n) ∧ (0 ≤ p.2 ∧ p.2 < g.n) := by
  obtain ⟨e, he, rfl⟩ := List.mem_map.1 h
  have := (checkG_zero.1 hc).2.1 e he
  unfold okE at this
  simp only; omega
theorem pairs_in12 {g : G} (hc : checkG g = 0) : In12 (pairsE g.es) := fun p hp => by
  have := pairs_range hc hp
  have := (checkG_zero.1 hc).1
  omega
def zero12 : List Nat := List.replicate 12 0
theorem zero12_len : zero12.length = 12 := by simp [zero12]
theorem cjoined_ok (g : G) (hc : checkG g = 0) (hl : g.es.length < 2 ^ 30) : ACall Tryz.prog 173 [tG g] (tF (genS (pairsE g.es)).1) := by
  have h12 := pairs_in12 hc
  obtain ⟨n, es⟩ := g
  simp only at h12 hl ⊢
  have hg := cgrown_ok
  have hr12 : (List.range 12).length = 12 := List.length_range
  have h0 : (genS ((pairsE es).take 0)).1 = List.range 12 := rfl
  refine ACall.of_body Tryz.func173 rfl (by kernel_rfl) ?_
  simp only [entry, Tryz.ntmps173, tG]
  refine zU ?_
  generalize hR : List.range 12 = R at *
  have hof : (fT R).map ofTree = fC R := fT_of R
  have hst := fC_store zero12 R (by rw [hr12]; rfl)
  have hlz : zero12.length = 12 := zero12_len
  have hz : fC zero12 = [.int .i64 0, .int .i64 0, .int .i64 0, .int .i64 0, .int .i64 0, .int .i64 0, .int .i64 0, .int .i64 0, .int .i64 0, .int .i64 0, .int .i64 0, .int .i64 0] := rfl
  rw [hz] at hst
  unfold tF at hg
  refine zR (zc @eRows_len (zc @fC_len (zc @fC_free (zc @hof (zc @hst (zc @hr12 trivial)))))) (zc hg trivial) trivial ?_
  rw [← h0]
  refine AWp.loopS (α:=Nat) 21 (fun i=>[(2,.c (.ptr 1 0)),(3,.c (.ptr 2 0)),(8,.c (.slice (eRows es) .none)),(9,.c (.int .i64 (es.length : Int))),(10,.c (.int .i64 (i : Int)))]) (fun i=>[.box [.int .i64 n, .slice (eRows es) .none], .box (fC zero12), .box (fC (genS ((pairsE es).take i)).1)]) (fun i=>i ≤ es.length) (fun i=>es.length - i) (0) (hk:=Weak.headL 3 21 [2, 3, 8, 9, 10] (zV @fC_in)) (h0:=?_) (round:=fun i hI=>?_)
  · exact Nat.zero_le _
  · have hi : i ≤ es.length := hI
    clear hI
    have hok := genS_ok (l := (pairsE es).take i) fun q hq => h12 q (List.mem_of_mem_take hq)
    by_cases hlt : i < es.length
    · have hltI : (i : Int) < es.length := by omega
      have e0 := List.getElem?_eq_getElem hlt
      have e1 := eRows_get e0
      have hp : (pairsE es)[i]? = some (es[i].a, es[i].b) := by simp [pairsE, e0]
      have hsn := take_snoc hp
      have hnx := genS_snoc ((pairsE es).take i) (es[i].a, es[i].b)
      rw [← hsn] at hnx
      have hrng := h12 _ (List.mem_of_getElem? hp)
      generalize es[i] = x at *
      obtain ⟨xa, xb, xm⟩ := x
      simp only at hrng hnx e1
      obtain ⟨a, rfl⟩ := Int.eq_ofNat_of_zero_le hrng.1.1
      obtain ⟨b, rfl⟩ := Int.eq_ofNat_of_zero_le hrng.2.1
      have ha : a < 12 := by omega
      have hb : b < 12 := by omega
      have hF := hok.1
      simp only [genStep, Int.toNat_natCast] at hnx
      have hn1 := congrArg Prod.fst hnx
      simp only at hn1
      generalize (genS ((pairsE es).take i)).1 = F at *
      have hJ := cjoin_ok F hF a b ha hb (H := [.box [.int .i64 n, .slice (eRows es) .none], .box (fC zero12), .box (fC F), .box [.int .i64 (a : Int), .int .i64 (b : Int), .int .i64 xm]]) (id := 2) rfl
      rw [← hn1] at hJ
      simp only [List.set_cons_succ, List.set_cons_zero] at hJ
      repeat' (first|((first|(refine zT ?_;intro K' hK')|(refine zG ?_ ?_<;>(try refine zH ?_)<;>intro hguard<;>(try exact zX)<;>try intro K' hK'))<;>((try simp +contextual only [go_sem, hltI, e1, eRows_len, Int.toNat_natCast]);(repeat' first|(with_reducible refine hK' _ _ ?_;clear hK' K')|((with_reducible first|refine ⟨_,_,hJ,?_⟩|refine ⟨_,hJ,?_⟩);try simp +contextual only [go_sem, hltI, e1, eRows_len, Int.toNat_natCast])|exact zY|with_reducible refine And.intro ?_ ?_|(with_reducible intro hpath;try exact zP)|(refine hK' _ _ ?_;clear hK' K')|fail);try refine zS ?_))|(refine zE ?_;refine hK _ _ ?_;clear hK K)|(refine zN ?_;try refine zS ?_)|refine zA ?_|(refine zB ?_;intro K hK)|(refine zC ?_ ?_<;>(try refine zH ?_)<;>intro hcond<;>try exact zX)|fail)
      refine ⟨i + 1,Weak.headN 3 21 [2, 3, 8, 9, 10] (zV @fC_in),?_,?_⟩
      · exact hlt
      · omega
    · have ei : i = es.length := by omega
      subst ei
      have hnl : ¬ ((es.length : Int) < es.length) := by omega
      have htk : (pairsE es).take es.length = pairsE es := List.take_of_length_le (by simp [pairsE])
      rw [htk]
      rw [htk] at hok
      have hlF := hok.1.len
      generalize (genS (pairsE es)).1 = F at *
      have ht : (fC F).take 12 = fC F := List.take_of_length_le (by rw [fC_len, hlF]; exact Nat.le_refl _)
      have hs := fC_store zero12 F (by rw [hlF]; rfl)
      generalize zero12 = Z at *
      refine zR (zc @hnl (zc @fC_len (zc @hlF (zc @hlz (zc @ht (zc @hs (zc @fC_free trivial))))))) trivial trivial ?_
      have hm := fC_borrow [Blk.box [.int .i64 n, .slice (eRows es) .none], Blk.box (fC F), Blk.box (fC F)] F
      simp [Rets, aret, Blk.cells, ty, Tryz.results173, ares, toT1, toT, borrow, borrow0, capCell, toTree0, hm, hlF, ht, fC_len, tF]
end Go.Proofs.YtfkegnhpihoncaaGreat
set_option linter.all false
namespace Go.Proofs.YtfkegnhpihoncaaGreat
open Go.Sp
set_option linter.unusedSimpArgs false
set_option linter.unusedVariables false
set_option maxHeartbeats 4000000
set_option maxRecDepth 100000
def iC (B : List Int) : List ACell := B.map fun x => ACell.int .i64 x
theorem iC_len (B : List Int) : (iC B).length = B.length := by simp [iC]
theorem iC_set (B : List Int) (i : Nat) (x : Int) : (iC B).set i (.int .i64 x) = iC (B.set i x) := by simp [iC, List.map_set]
theorem made_ints (n : Nat) : madeA [ACell.int .i64 0] n = iC (List.replicate n 0) := by simp [madeA, iC]
theorem iC_trees (B : List Int) : (iC B).mapM toTree0 = some (B.map fun x => Tree.int .i64 x) := by
  induction B with
  | nil => rfl
  | cons x xs ih => simp only [iC, List.map_cons, List.mapM_cons] at ih ⊢; rw [ih]; rfl
theorem iRows_pre (B : List Int) (i : Nat) (r : List Tree) (m : Nat) (x : Tree) (h1 : (iRows B)[i]? = some r) (h2 : r[m]? = some x) : (B.map fun x => Tree.int .i64 x)[i * 1 + m]? = some x := by
  simp only [iRows, List.getElem?_map] at h1
  cases hb : B[i]? with
  | none => rw [hb] at h1; simp at h1
  | some b =>
    rw [hb] at h1
    simp at h1
    subst h1
    cases m with
    | zero => simp at h2; simp [hb, h2]
    | succ m => simp at h2
theorem iC_get {B : List Int} {i : Nat} {x : Int} (h : B[i]? = some x) : (iC B)[i]? = some (.int .i64 x) := by simp [iC, h]
theorem iC_drop {B : List Int} {i : Nat} {x : Int} (h : B[i]? = some x) : (iC B).drop i = .int .i64 x :: (iC B).drop (i + 1) := by
  obtain ⟨hl, e⟩ := List.getElem?_eq_some_iff.1 (iC_get h)
  rw [List.drop_eq_getElem_cons hl, e]
theorem iC_in {m : Nat} {B : List Int} : blkIn m (.box (iC B)) := by
  intro c hc
  obtain ⟨p, _, rfl⟩ := List.mem_map.1 hc
  exact True.intro
theorem iRows_take (l : List Int) (i : Nat) : (iRows l).take i = iRows (l.take i) := by simp [iRows]
theorem iRows_drop (l : List Int) (i : Nat) : (iRows l).drop i = iRows (l.drop i) := by simp [iRows]
def llRows (ls : List (List Int)) : List (List Tree) := ls.map fun l => [Tree.slice (iRows l)]
def tlists (ls : List (List Int)) : TVal := .t (.slice (llRows ls))
attribute [go_sem] tlists
theorem llRows_len (ls : List (List Int)) : (llRows ls).length = ls.length := by simp [llRows]
theorem llRows_get {ls : List (List Int)} {i : Nat} {l : List Int} (h : ls[i]? = some l) : (llRows ls)[i]? = some [Tree.slice (iRows l)] := by simp [llRows, h]
theorem llRows_k' {ls : List (List Int)} {r : List Tree} (h : r ∈ llRows ls) : r.length = 1 := by
  obtain ⟨x, _, rfl⟩ := List.mem_map.1 h; rfl
theorem llRows_snoc (ls : List (List Int)) (a : List Int) : llRows ls ++ [[Tree.slice (iRows a)]] = llRows (ls ++ [a]) := by simp [llRows]
theorem chRows (ls : List (List Int)) : (ls.map iRows).map (fun r => [Tree.slice r]) = llRows ls := by simp [llRows]
def chI (b : Nat) (ls : List (List Int)) : List ACell := chC b (ls.map iRows)
def chJ (ls : List (List Int)) : List Blk := chB (ls.map iRows)
theorem chI_len (b : Nat) (ls : List (List Int)) : (chI b ls).length = ls.length := by simp [chI, chC_len]
theorem chJ_len (ls : List (List Int)) : (chJ ls).length = ls.length := by simp [chJ, chB_len]
theorem chI_get {b i : Nat} {ls : List (List Int)} {l : List Int} (h : ls[i]? = some l) : (chI b ls)[i]? = some (.slice (iRows l) (.chain (i + b))) := chC_get (by simp [h])
theorem chI_drop {b i : Nat} {ls : List (List Int)} {l : List Int} (h : ls[i]? = some l) : (chI b ls).drop i = .slice (iRows l) (.chain (i + b)) :: (chI b ls).drop (i + 1) := chC_drop (by simp [h])
theorem chI_set (b i : Nat) (ls : List (List Int)) (l : List Int) : (chI b ls).set i (.slice (iRows l) (.chain (i + b))) = chI b (ls.set i l) := by unfold chI; rw [chC_set, List.map_set]
theorem chJ_get {i : Nat} {ls : List (List Int)} {l : List Int} (h : ls[i]? = some l) : (chJ ls)[i]? = some (.chain l.length 1) := by
  have := chB_get (f := ls.map iRows) (i := i) (r := iRows l) (by simp [h])
  rwa [iRows_len] at this
theorem chJ_set (i : Nat) (ls : List (List Int)) (l : List Int) {n : Nat} (hn : n = l.length) : (chJ ls).set i (.chain n 1) = chJ (ls.set i l) := by
  unfold chJ; rw [chB_set _ i (iRows l) (by rw [iRows_len]; exact hn), List.map_set]
theorem chI_in {m b : Nat} {ls : List (List Int)} (h : b + ls.length ≤ m) : blkIn m (.box (chI b ls)) := chC_in (by simpa using h)
theorem chJ_in {m : Nat} {ls : List (List Int)} : blksIn m (chJ ls) := chB_in
theorem chJ_take {ls : List (List Int)} {n : Nat} (h : ls.length ≤ n) : (chJ ls).take n = chJ ls := List.take_of_length_le (by rw [chJ_len]; exact h)
theorem chI_nil (b n : Nat) : chC b (List.replicate n []) = chI b (List.replicate n []) := by simp [chI, iRows]
theorem chJ_nil (n : Nat) : chB (List.replicate n []) = chJ (List.replicate n []) := by simp [chJ, iRows]
theorem made_nils (n : Nat) : madeA [ACell.nils] n = List.replicate n .nils := by simp [madeA]
structure R where
  n : Int
  es : List E
  ar : List (List Int)
def R.g (r : R) : G := ⟨r.n, r.es⟩
def tR (r : R) : TVal := .agg [.int .i64 r.n, .slice (eRows r.es), .slice (llRows r.ar)]
def tabI (N : Nat) (g : Nat → Int) : List Int := (List.range N).map g
theorem tabI_len (N : Nat) (g : Nat → Int) : (tabI N g).length = N := by simp [tabI]
theorem tabI_get {N i : Nat} (g : Nat → Int) (h : i < N) : (tabI N g)[i]? = some (g i) := by simp [tabI, h]
theorem tabI_congr {N : Nat} {g f : Nat → Int} (h : ∀ i, i < N → g i = f i) : tabI N g = tabI N f := List.map_congr_left fun i hi => h i (List.mem_range.1 hi)
theorem tabI_set {N i : Nat} (g : Nat → Int) (x : Int) (hi : i < N) : (tabI N g).set i x = tabI N (fun j => if j = i then x else g j) := by
  apply List.ext_getElem?
  intro k
  by_cases hk : k < N
  · rw [tabI_get _ hk]
    by_cases e : i = k
    · subst e; rw [List.getElem?_set_self (by rw [tabI_len]; exact hi)]; simp
    · rw [List.getElem?_set_ne e, tabI_get _ hk, if_neg (by omega)]
  · rw [List.getElem?_eq_none (by rw [List.length_set, tabI_len]; omega), List.getElem?_eq_none (by rw [tabI_len]; omega)]
theorem tabI_rep (N : Nat) : List.replicate N (0 : Int) = tabI N fun _ => 0 := by
  rw [tabI, eq_comm, List.eq_replicate_iff]
  exact ⟨by simp, fun x hx => by obtain ⟨_, _, rfl⟩ := List.mem_map.1 hx; rfl⟩
end Go.Proofs.YtfkegnhpihoncaaGreat
