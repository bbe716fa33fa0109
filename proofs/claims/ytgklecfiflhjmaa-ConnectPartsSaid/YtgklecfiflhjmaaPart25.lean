/- A part of the proof. -/
import Derived.Test.YtgklecfiflhjmaaPart24
import Derived.Test.YtgklecfiflhjmaaPart02
import Derived.Test.YtgklecfiflhjmaaLayerC
import Derived.Test.YtgklecfiflhjmaaPart23
import Derived.Test.YtgklecfiflhjmaaPart19
import Derived.Test.YtgklecfiflhjmaaPart21
set_option linter.all false
set_option maxHeartbeats 4000000
set_option maxRecDepth 100000
namespace Go.Proofs.Ytgklecfiflhjmaa
open Go.Sp
def rootsL (F : List Nat) (v : Nat) : List Nat := (List.range v).filter fun u => decide (rootF F 12 u = u)
def partV (F : List Nat) (v r : Nat) : List Int := ((List.range v).filter fun u => decide (rootF F 12 u = r)).map fun u : Nat => (u : Int)
def partsV (F : List Nat) (v : Nat) : List (List Int) := (rootsL F v).map (partV F v)
theorem rootsL_nodup (F : List Nat) (v : Nat) : (rootsL F v).Nodup := List.Nodup.sublist List.filter_sublist List.nodup_range
theorem rootsL_mem {F : List Nat} {v u : Nat} : u ∈ rootsL F v ↔ u < v ∧ rootF F 12 u = u := by simp [rootsL]
theorem rootsL_succ (F : List Nat) (v : Nat) : rootsL F (v + 1) = if rootF F 12 v = v then rootsL F v ++ [v] else rootsL F v := by
 unfold rootsL
 rw [List.range_succ, List.filter_append]
 by_cases h : rootF F 12 v = v <;> simp [h]
theorem rootsL_len (F : List Nat) (v : Nat) : (rootsL F v).length ≤ v := by
 unfold rootsL
 exact Nat.le_trans (List.length_filter_le _ _) (by simp)
theorem partV_succ (F : List Nat) (v r : Nat) : partV F (v + 1) r = if rootF F 12 v = r then partV F v r ++ [(v : Int)] else partV F v r := by
 unfold partV
 rw [List.range_succ, List.filter_append]
 by_cases h : rootF F 12 v = r <;> simp [h]
theorem parts_new {F : List Nat} (hF : FOk F) {v : Nat} (hv : v < 12) (h : rootF F 12 v = v) : partsV F (v + 1) = partsV F v ++ [[(v : Int)]] := by
 unfold partsV
 rw [rootsL_succ, if_pos h, List.map_append]
 congr 1
 ·refine List.map_congr_left fun r hr => ?_
  have := (rootsL_mem.1 hr).1
  rw [partV_succ, if_neg (by omega)]
 ·simp only [List.map_cons, List.map_nil]
  rw [partV_succ, if_pos h]
  have : partV F v v = [] := by
   unfold partV
   rw [List.map_eq_nil_iff, List.filter_eq_nil_iff]
   intro u hu
   have hu' := List.mem_range.1 hu
   have := rootF_le hF (n := 12) (v := u) (by omega)
   simp only [decide_eq_true_eq]; omega
  rw [this]; rfl
theorem parts_old {F : List Nat} {v k : Nat} (h : rootF F 12 v ≠ v) {r : Nat} (hk : (rootsL F v)[k]? = some r) (hr : rootF F 12 v = r) : (rootsL F (v + 1)) = rootsL F v ∧ (partsV F v)[k]? = some (partV F v r) ∧ partsV F (v + 1) = (partsV F v).set k (partV F v r ++ [(v : Int)]) := by
 have e1 : rootsL F (v + 1) = rootsL F v := by rw [rootsL_succ, if_neg h]
 refine ⟨e1, by simp [partsV, hk], ?_⟩
 unfold partsV
 rw [e1]
 apply List.ext_getElem?
 intro i
 have hkl := (List.getElem?_eq_some_iff.1 hk).1
 by_cases e : k = i
 ·subst e
  rw [List.getElem?_set_self (by simpa using hkl), List.getElem?_map, hk]
  simp only [Option.map_some]
  rw [partV_succ, if_pos hr]
 ·rw [List.getElem?_set_ne e, List.getElem?_map, List.getElem?_map]
  cases hi : (rootsL F v)[i]? with
  | none => rfl
  | some s =>
   simp only [Option.map_some]
   rw [partV_succ, if_neg]
   intro hs
   obtain ⟨hil, e2⟩ := List.getElem?_eq_some_iff.1 hi
   obtain ⟨_, e3⟩ := List.getElem?_eq_some_iff.1 hk
   have hnd := rootsL_nodup F v
   rw [List.Nodup, List.pairwise_iff_getElem] at hnd
   have e4 : (rootsL F v)[k] = (rootsL F v)[i] := by rw [e2, e3, ← hr, hs]
   rcases Nat.lt_or_gt_of_ne e with h | h
   ·exact hnd k i hkl hil h e4
   ·exact hnd i k hil hkl h e4.symm
def mR : Nat → List Nat → List (MKey × MV)
 | _, [] => []
 | b, r :: l => (.int r, .c (.int .i64 (b : Int))) :: mR (b + 1) l
theorem mR_none : ∀ (b : Nat) (l : List Nat) (r : Nat), r ∉ l → mIdx (mR b l) (.int r) = none
 | b, [], r, _ => rfl
 | b, x :: l, r, h => by
  have h1 : ¬ x = r := fun e => h (by simp [e])
  have h2 := mR_none (b + 1) l r (fun hm => h (by simp [hm]))
  unfold mIdx at h2 ⊢
  simp only [mR, List.findIdx?_cons, h2, Option.map_none]
  rw [if_neg]
  intro e
  have : (MKey.int (x : Int)) = .int r := by simpa using e
  injection this with e
  exact h1 (by omega)
theorem mR_at : ∀ (b : Nat) (l : List Nat) (k r : Nat), l.Nodup → l[k]? = some r → mIdx (mR b l) (.int r) = some k ∧ (mR b l)[k]? = some (.int r, .c (.int .i64 ((b + k : Nat) : Int)))
 | b, [], k, r, _, h => by simp at h
 | b, x :: l, 0, r, _, h => by
  simp at h; subst h
  simp [mIdx, mR, List.findIdx?_cons]
 | b, x :: l, k + 1, r, hn, h => by
  rw [List.nodup_cons] at hn
  have h' : l[k]? = some r := by simpa using h
  obtain ⟨q1, q2⟩ := mR_at (b + 1) l k r hn.2 h'
  have h1 : ¬ x = r := fun e => hn.1 (by rw [e]; exact List.mem_of_getElem? h')
  constructor
  ·unfold mIdx at q1 ⊢
   simp only [mR, List.findIdx?_cons, q1, Option.map_some]
   rw [if_neg]
   intro e
   have : (MKey.int (x : Int)) = .int r := by simpa using e
   injection this with e
   exact h1 (by omega)
  ·simp only [mR, List.getElem?_cons_succ, q2]
   rw [show b + 1 + k = b + (k + 1) by omega]
theorem mR_val {l : List Nat} {k r : Nat} (hn : l.Nodup) (h : l[k]? = some r) (z : MV) : mVal (mR 0 l) (.int r) z = .c (.int .i64 (k : Int)) := by
 obtain ⟨q1, q2⟩ := mR_at 0 l k r hn h
 unfold mVal
 simp [q1, q2]
theorem mR_snoc : ∀ (b : Nat) (l : List Nat) (r : Nat), mR b (l ++ [r]) = mR b l ++ [(.int r, .c (.int .i64 ((b + l.length : Nat) : Int)))]
 | b, [], r => by simp [mR]
 | b, x :: l, r => by
  have := mR_snoc (b + 1) l r
  simp only [List.cons_append, mR, this, List.length_cons]
  rw [show b + 1 + l.length = b + (l.length + 1) by omega]
theorem mR_put {l : List Nat} {r : Nat} (h : r ∉ l) : mPut (mR 0 l) (.int r) (.c (.int .i64 (l.length : Int))) = mR 0 (l ++ [r]) := by
 unfold mPut
 rw [mR_none 0 l r h, mR_snoc]
 simp
theorem klInts_ok : ∀ {b : Nat} {l : List Nat}, ∀ e, e ∈ mR b l → KShape.ok .int e.1 = true
 | b, [], e, h => by simp [mR] at h
 | b, x :: l, e, h => by
  rcases List.mem_cons.1 h with rfl | h
  ·rfl
  ·exact klInts_ok e h
theorem cntL_put (es : List E) (a b m i j : Int) : cntL (bagPut es a b m) i j = if i = a ∧ j = b then m else cntL es i j := by
 induction es with
 | nil =>
  simp only [bagPut, cntL]
  by_cases h : i = a ∧ j = b
  ·rw [if_pos h, if_pos ⟨h.1.symm, h.2.symm⟩]
  ·rw [if_neg h, if_neg fun x => h ⟨x.1.symm, x.2.symm⟩]
 | cons x xs ih =>
  simp only [bagPut]
  by_cases hx : x.a = a ∧ x.b = b
  ·rw [if_pos hx]
   simp only [cntL]
   by_cases h : i = a ∧ j = b
   ·rw [if_pos h, if_pos ⟨h.1.symm, h.2.symm⟩]
   ·rw [if_neg h, if_neg fun x => h ⟨x.1.symm, x.2.symm⟩, if_neg fun y => h ⟨by omega, by omega⟩]
  ·rw [if_neg hx]
   simp only [cntL, ih]
   by_cases hy : x.a = i ∧ x.b = j
   ·rw [if_pos hy, if_pos hy, if_neg fun h => hx ⟨by omega, by omega⟩]
   ·rw [if_neg hy, if_neg hy]
def cG (l : List (Int × Int)) (k a b : Nat) : Int := cntL (bagL (l.take k)) a b
theorem cG_step {l : List (Int × Int)} {k n a b : Nat} {p : Int × Int} (h : l[k]? = some p) (ha : min p.1 p.2 = (a : Int)) (hb : max p.1 p.2 = (b : Int)) :
  tabF n (fun i j => if i = a ∧ j = b then cG l k a b + 1 else cG l k i j) = tabF n (cG l (k + 1)) := by
 refine tabF_congr fun i j _ _ => ?_
 unfold cG
 rw [take_snoc h, bagL_snoc, bagStep, cntL_put, ha, hb]
 by_cases e : i = a ∧ j = b
 ·rw [if_pos e, if_pos ⟨by omega, by omega⟩]
 ·rw [if_neg e, if_neg fun x => e ⟨by omega, by omega⟩]
def okP (n : Int) (p : Int × Int) : Prop := (0 ≤ p.1 ∧ p.1 < n) ∧ (0 ≤ p.2 ∧ p.2 < n)
theorem MakeR_ok (n : Int) (l : List (Int × Int)) (hl : l.length < 2 ^ 40) : ACall Try.prog 70 [tint n, tpairs l] (.tup [tG (makeE n l).1, tint (makeE n l).2]) := by
 refine ACall.of_body Try.func70 rfl (by kernel_rfl) ?_
 simp only [entry, Try.ntmps70, tint, tpairs]
 refine zU ?_
 by_cases hn : n < 1 ∨ 12 < n
 ·
  have e : makeE n l = (⟨0, []⟩, 2) := by unfold makeE; rw [if_pos hn]
  by_cases hn1 : n < 1
  ·
   refine zR (zc @hn1 trivial) trivial trivial ?_
   simp [Rets, aret, Blk.cells, ty, Try.results70, ares, toT1, toT, borrow, borrow0, capCell, toTree0, tint, tG, e, eRows]
  ·have hn2 : 12 < n := by omega
   refine zR (zc @hn1 (zc @hn2 trivial)) trivial trivial ?_
   simp [Rets, aret, Blk.cells, ty, Try.results70, ares, toT1, toT, borrow, borrow0, capCell, toTree0, tint, tG, e, eRows]
 have hn1 : ¬ n < 1 := by omega
 have hn2 : ¬ 12 < n := by omega
 by_cases hlen : (4096 : Int) < (l.length : Int)
 ·
  have e : makeE n l = (⟨0, []⟩, 5) := by unfold makeE; rw [if_neg hn, if_pos (by omega)]
  refine zR (zc @hn1 (zc @hn2 (zc @pRows_len (zc @hlen trivial)))) trivial trivial ?_
  simp [Rets, aret, Blk.cells, ty, Try.results70, ares, toT1, toT, borrow, borrow0, capCell, toTree0, tint, tG, e, eRows]
 obtain ⟨m, hm⟩ : ∃ m : Nat, n = m := ⟨n.toNat, by omega⟩
 subst hm
 have hT1 := Table1_ok m (by omega)
 have hc0 : ∀ a b, cG l 0 a b = 0 := fun a b => rfl
 rw [rep_tab m (cG l 0) hc0] at hT1
 repeat' (first|((first|(refine zT ?_;intro K' hK')|(refine zG ?_ ?_<;>(try refine zH ?_)<;>intro hguard<;>(try exact zX)<;>try intro K' hK'))<;>((try simp +contextual only [go_sem, hn1, hn2, pRows_len, hlen]);(repeat' first|(with_reducible refine hK' _ _ ?_;clear hK' K')|((with_reducible first|refine ⟨_,_,hT1,?_⟩|refine ⟨_,hT1,?_⟩);try simp +contextual only [go_sem, hn1, hn2, pRows_len, hlen])|exact zY|with_reducible refine And.intro ?_ ?_|(with_reducible intro hpath;try exact zP)|(refine hK' _ _ ?_;clear hK' K')|fail);try refine zS ?_))|(refine zE ?_;refine hK _ _ ?_;clear hK K)|(refine zN ?_;try refine zS ?_)|refine zA ?_|(refine zB ?_;intro K hK)|(refine zC ?_ ?_<;>(try refine zH ?_)<;>intro hcond<;>try exact zX)|fail)
 refine AWp.loopS (α:=Nat) 93 (fun k=>[(0,.c (.int .i64 (m : Int))),(1,.c (.slice (pRows l) .none)),(4,.c (.ptr 0 0)),(6,.c (.rows (refsT 2 m m) (.chain 1))),(7,.c (.int .i64 (k : Int)))]) (fun k=>.box [.int .i64 0, .nils] :: .chain m 1 :: (tabF m (cG l k)).map rowB) (fun k=>k ≤ l.length ∧ (∀ j, j < k → ∀ p, l[j]? = some p → okP m p) ∧ BagOk m k (bagL (l.take k))) (fun k=>l.length - k) (0) (hk:=Weak.headL (m + 2) 93 [0, 1, 4, 6, 7] (by (repeat' (first | exact valsIn_nil _ | exact blksIn_nil _ | exact cellsIn_nil _ | refine And.intro ?_ ?_ | refine valsIn_cons ?_ ?_ | refine blksIn_cons ?_ ?_ | refine cellsIn_cons ?_ ?_ | exact True.intro | exact refsT_in (by omega) | exact blksIn_rep | exact blksIn_tab | (show _ < _; omega) | exact cellsIn_map (fun _ => True.intro) | (intro c hc; cases hc; done) | (intro c hc; simp only [List.mem_cons, List.not_mem_nil, or_false] at hc; subst hc; exact True.intro) | (intro c hc; simp only [List.mem_cons, List.not_mem_nil, or_false] at hc; rcases hc with rfl | rfl <;> exact True.intro))))) (h0:=?_) (round:=fun k hI=>?_)
 ·exact ⟨Nat.zero_le _, fun j hj => by omega, List.Pairwise.nil, by simp [bagL], by simp [bagL], by simp [bagL]⟩
 ·obtain ⟨hk, hok, hbag⟩ := hI
  by_cases hlt : k < l.length
  ·have e0 := List.getElem?_eq_getElem hlt
   have e1 := pRows_get e0
   generalize l[k] = p at *
   by_cases hp : okP m p
   case neg =>
    have e : makeE m l = (⟨0, []⟩, 2) := by
     unfold makeE
     rw [if_neg hn, if_neg (by omega), if_pos ⟨p, List.mem_of_getElem? e0, hp⟩]
    unfold okP at hp
    repeat' (first|((first|(refine zT ?_;intro K' hK')|(refine zG ?_ ?_<;>(try refine zH ?_)<;>intro hguard<;>(try exact zX)<;>try intro K' hK'))<;>((try simp +contextual only [go_sem, e1, pRows_len, Int.toNat_natCast, Int.ofNat_lt]);(repeat' first|(with_reducible refine hK' _ _ ?_;clear hK' K')|exact zY|with_reducible refine And.intro ?_ ?_|(with_reducible intro hpath;try exact zP)|(refine hK' _ _ ?_;clear hK' K')|fail);try refine zS ?_))|(refine zE ?_;refine hK _ _ ?_;clear hK K)|(refine zN ?_;try refine zS ?_)|refine zA ?_|(refine zB ?_;intro K hK)|(refine zC ?_ ?_<;>(try refine zH ?_)<;>intro hcond<;>try exact zX)|fail)
    all_goals
     first
     | (exfalso; omega)
     | skip
    all_goals
     simp [Rets, aret, Blk.cells, ty, Try.results70, ares, toT1, toT, borrow, borrow0, capCell, toTree0, tint, tG, e, eRows]
   obtain ⟨⟨p1, p2⟩, ⟨p3, p4⟩⟩ := hp
   obtain ⟨a, ha⟩ : ∃ a : Nat, min p.1 p.2 = a := ⟨(min p.1 p.2).toNat, by omega⟩
   obtain ⟨b, hb⟩ : ∃ b : Nat, max p.1 p.2 = b := ⟨(max p.1 p.2).toNat, by omega⟩
   have ham : a < m := by omega
   have hbm : b < m := by omega
   have hst := cG_step (n := m) e0 ha hb
   have hr := refsT_get (base := 2) (n := m) ham
   have hrow := tabF_row (cG l k) ham
   have hg1 := tab_get hrow
   have hset := tabF_set (cG l k) ham hbm (cG l k a b + 1)
   rw [hst] at hset
   have hcb : 0 ≤ cG l k a b ∧ cG l k a b ≤ k := ⟨cntL_ge fun e he => (hbag.m e he).1, cntL_le (fun e he => (hbag.m e he).2) (by omega)⟩
   have hrl : ((List.range m).map fun b => cG l k a b).length = m := by simp
   have hrg : ((List.range m).map fun b => cG l k a b)[b]? = some (cG l k a b) := by simp [hbm]
   have hic := iC_get hrg
   have hbag2 : BagOk m (k + 1) (bagL (l.take (k + 1))) := by
    rw [take_snoc e0, bagL_snoc]; exact bag_step hbag ⟨p1, p2⟩ ⟨p3, p4⟩
   have q1 : ¬ p.1 < 0 := by omega
   have q2 : ¬ (m : Int) ≤ p.1 := by omega
   have q3 : ¬ p.2 < 0 := by omega
   have q4 : ¬ (m : Int) ≤ p.2 := by omega
   have hTn : tabF m (cG l (k + 1)) = tabF m (cG l (k + 1)) := rfl
   generalize ((List.range m).map fun b => cG l k a b) = row at *
   generalize tabF m (cG l k) = T at *
   generalize cG l k a b = x at *
   refine zR (zc @e1 (zc @pRows_len (zc @Int.ofNat_lt (zc @q1 (zc @q2 (zc @q3 (zc @q4 (zc @ha (zc @hb (zc @hr (zc @hg1 (zc @hic (zc @iC_len (zc @hrl (zc @iC_set (zc @tab_set (zc @hset trivial))))))))))))))))) trivial trivial ?_
   refine ⟨k + 1,Weak.headN (m + 2) 93 [0, 1, 4, 6, 7] (by (repeat' (first | exact valsIn_nil _ | exact blksIn_nil _ | exact cellsIn_nil _ | refine And.intro ?_ ?_ | refine valsIn_cons ?_ ?_ | refine blksIn_cons ?_ ?_ | refine cellsIn_cons ?_ ?_ | exact True.intro | exact refsT_in (by omega) | exact blksIn_rep | exact blksIn_tab | (show _ < _; omega) | exact cellsIn_map (fun _ => True.intro) | (intro c hc; cases hc; done) | (intro c hc; simp only [List.mem_cons, List.not_mem_nil, or_false] at hc; subst hc; exact True.intro) | (intro c hc; simp only [List.mem_cons, List.not_mem_nil, or_false] at hc; rcases hc with rfl | rfl <;> exact True.intro)))),?_,?_⟩
   ·refine ⟨hlt, fun j hj q hq => ?_, hbag2⟩
    by_cases hjk : j = k
    ·subst hjk
     rw [e0] at hq; cases hq
     exact ⟨⟨p1, p2⟩, ⟨p3, p4⟩⟩
    ·exact hok j (by omega) q hq
   ·omega
  ·have ek : k = l.length := by omega
   rw [ek] at hbag hok ⊢
   have hcl : ∀ a b, cG l l.length a b = cntL (bagL l) a b := fun a b => by unfold cG; rw [List.take_length]
   rw [List.take_length] at hbag
   have hnob : ¬ ∃ p, p ∈ l ∧ ¬ ((0 ≤ p.1 ∧ p.1 < (m : Int)) ∧ (0 ≤ p.2 ∧ p.2 < (m : Int))) := by
    rintro ⟨p, hp, hx⟩
    obtain ⟨j, hj⟩ := List.mem_iff_getElem?.1 hp
    exact hx (hok j (List.getElem?_eq_some_iff.1 hj).1 p hj)
   refine zR (zc @pRows_len (zc @Int.ofNat_lt trivial)) trivial trivial ?_
   refine AWp.loopS (α:=Nat) 93 (fun a=>[(0,.c (.int .i64 (m : Int))),(4,.c (.ptr 0 0)),(6,.c (.rows (refsT 2 m m) (.chain 1))),(10,.c (.int .i64 (a : Int)))]) (fun a=>.box [.int .i64 0, .nils] :: .chain m 1 :: (tabF m (cG l l.length)).map rowB) (fun a=>a ≤ m ∧ ∀ i j : Nat, i < a → j < m → cG l l.length i j ≤ 50) (fun a=>m - a) (0) (hk:=Weak.headL (m + 2) 93 [0, 4, 6, 10] (by (repeat' (first | exact valsIn_nil _ | exact blksIn_nil _ | exact cellsIn_nil _ | refine And.intro ?_ ?_ | refine valsIn_cons ?_ ?_ | refine blksIn_cons ?_ ?_ | refine cellsIn_cons ?_ ?_ | exact True.intro | exact refsT_in (by omega) | exact blksIn_rep | exact blksIn_tab | (show _ < _; omega) | exact cellsIn_map (fun _ => True.intro) | (intro c hc; cases hc; done) | (intro c hc; simp only [List.mem_cons, List.not_mem_nil, or_false] at hc; subst hc; exact True.intro) | (intro c hc; simp only [List.mem_cons, List.not_mem_nil, or_false] at hc; rcases hc with rfl | rfl <;> exact True.intro))))) (h0:=?_) (round:=fun a hI=>?_)
   ·exact ⟨Nat.zero_le _, fun i j hi => by omega⟩
   ·obtain ⟨ha, hA⟩ := hI
    by_cases hlta : a < m
    ·have hltaI : (a : Int) < m := by omega
     refine zR (zc @hltaI trivial) trivial trivial ?_
     refine AWp.loopS (α:=Nat) 93 (fun b=>[(0,.c (.int .i64 (m : Int))),(4,.c (.ptr 0 0)),(6,.c (.rows (refsT 2 m m) (.chain 1))),(10,.c (.int .i64 (a : Int))),(11,.c (.int .i64 (b : Int)))]) (fun b=>.box [.int .i64 0, .nils] :: .chain m 1 :: (tabF m (cG l l.length)).map rowB) (fun b=>b ≤ m ∧ ∀ j : Nat, j < b → cG l l.length a j ≤ 50) (fun b=>m - b) (0) (hk:=Weak.headL (m + 2) 93 [0, 4, 6, 10, 11] (by (repeat' (first | exact valsIn_nil _ | exact blksIn_nil _ | exact cellsIn_nil _ | refine And.intro ?_ ?_ | refine valsIn_cons ?_ ?_ | refine blksIn_cons ?_ ?_ | refine cellsIn_cons ?_ ?_ | exact True.intro | exact refsT_in (by omega) | exact blksIn_rep | exact blksIn_tab | (show _ < _; omega) | exact cellsIn_map (fun _ => True.intro) | (intro c hc; cases hc; done) | (intro c hc; simp only [List.mem_cons, List.not_mem_nil, or_false] at hc; subst hc; exact True.intro) | (intro c hc; simp only [List.mem_cons, List.not_mem_nil, or_false] at hc; rcases hc with rfl | rfl <;> exact True.intro))))) (h0:=?_) (round:=fun b hI=>?_)
     ·exact ⟨Nat.zero_le _, fun j hj => by omega⟩
     ·obtain ⟨hb, hB⟩ := hI
      by_cases hltb : b < m
      ·have hltbI : (b : Int) < m := by omega
       have hr := refsT_get (base := 2) (n := m) hlta
       have hrow := tabF_row (cG l l.length) hlta
       have hg1 := tab_get hrow
       have hrl : ((List.range m).map fun b => cG l l.length a b).length = m := by simp
       have hrg : ((List.range m).map fun b => cG l l.length a b)[b]? = some (cG l l.length a b) := by simp [hltb]
       have hic := iC_get hrg
       by_cases hbig : 50 < cG l l.length a b
       ·have e : makeE m l = (⟨0, []⟩, 5) := by
         unfold makeE
         rw [if_neg hn, if_neg (by omega), if_neg hnob, if_pos ⟨_, mem_of_cntL (es := bagL l) (a := a) (b := b) (by rw [← hcl]; omega), by simp only; rw [← hcl]; exact hbig⟩]
        generalize ((List.range m).map fun b => cG l l.length a b) = row at *
        generalize tabF m (cG l l.length) = T at *
        generalize cG l l.length a b = x at *
        refine zR (zc @hltbI (zc @hr (zc @hg1 (zc @hic (zc @iC_len (zc @hrl (zc @hbig trivial))))))) trivial trivial ?_
        simp [Rets, aret, Blk.cells, ty, Try.results70, ares, toT1, toT, borrow, borrow0, capCell, toTree0, tint, tG, e, eRows]
       ·generalize ((List.range m).map fun b => cG l l.length a b) = row at *
        generalize hxx : cG l l.length a b = x at *
        refine zR (zc @hltbI (zc @hr (zc @hg1 (zc @hic (zc @iC_len (zc @hrl (zc @hbig trivial))))))) trivial trivial ?_
        refine ⟨b + 1,Weak.headN (m + 2) 93 [0, 4, 6, 10, 11] (by (repeat' (first | exact valsIn_nil _ | exact blksIn_nil _ | exact cellsIn_nil _ | refine And.intro ?_ ?_ | refine valsIn_cons ?_ ?_ | refine blksIn_cons ?_ ?_ | refine cellsIn_cons ?_ ?_ | exact True.intro | exact refsT_in (by omega) | exact blksIn_rep | exact blksIn_tab | (show _ < _; omega) | exact cellsIn_map (fun _ => True.intro) | (intro c hc; cases hc; done) | (intro c hc; simp only [List.mem_cons, List.not_mem_nil, or_false] at hc; subst hc; exact True.intro) | (intro c hc; simp only [List.mem_cons, List.not_mem_nil, or_false] at hc; rcases hc with rfl | rfl <;> exact True.intro)))),?_,?_⟩
        ·refine ⟨hltb, fun j hj => ?_⟩
         by_cases e : j = b
         ·subst e; omega
         ·exact hB j (by omega)
        ·omega
      ·have eb : b = m := by omega
       have hnl : ¬ ((b : Int) < m) := by omega
       refine zR (zc @hnl trivial) trivial trivial ?_
       refine ⟨a + 1,Weak.headN (m + 2) 93 [0, 4, 6, 10] (by (repeat' (first | exact valsIn_nil _ | exact blksIn_nil _ | exact cellsIn_nil _ | refine And.intro ?_ ?_ | refine valsIn_cons ?_ ?_ | refine blksIn_cons ?_ ?_ | refine cellsIn_cons ?_ ?_ | exact True.intro | exact refsT_in (by omega) | exact blksIn_rep | exact blksIn_tab | (show _ < _; omega) | exact cellsIn_map (fun _ => True.intro) | (intro c hc; cases hc; done) | (intro c hc; simp only [List.mem_cons, List.not_mem_nil, or_false] at hc; subst hc; exact True.intro) | (intro c hc; simp only [List.mem_cons, List.not_mem_nil, or_false] at hc; rcases hc with rfl | rfl <;> exact True.intro)))),?_,?_⟩
       ·refine ⟨hlta, fun i j hi hj => ?_⟩
        by_cases e : i = a
        ·subst e; exact hB j (by omega)
        ·exact hA i j (by omega) hj
       ·omega
    ·have ea : a = m := by omega
     have hnl : ¬ ((a : Int) < m) := by omega
     have hno5 : ¬ ∃ e, e ∈ bagL l ∧ 50 < e.m := by
      rintro ⟨e, he, hx⟩
      have hr := hbag.r e he
      have hc := cntL_of_mem hbag.d he
      have := hA e.a.toNat e.b.toNat (by omega) (by omega)
      rw [hcl, show ((e.a.toNat : Nat) : Int) = e.a by omega, show ((e.b.toNat : Nat) : Int) = e.b by omega, hc] at this
      omega
     have e : makeE m l = (⟨m, sortE (bagL l)⟩, 0) := by
      unfold makeE
      rw [if_neg hn, if_neg (by omega), if_neg hnob, if_neg hno5]
     have hperm := sortE_perm (bagL l)
     have hj := join_eq (f := cellT (tabF m (cG l l.length))) (es := sortE (bagL l)) (n := m) (sortE_sorted hbag.d) (fun x hx => by
      have h1 := hbag.r x (hperm.mem_iff.1 hx)
      have h2 := hbag.m x (hperm.mem_iff.1 hx)
      omega) (fun i j hij hj => by
      rw [tabF_cell _ (by omega) hj, hcl]
      exact (cntL_perm hperm ((List.Perm.pairwise_iff neE.symm hperm).2 hbag.d) i j).symm)
     have hJ := Joined_ok m (tabF m (cG l l.length)) (by omega) (tabF_sq _ _)
     rw [hj] at hJ
     refine table_data [.box [.int .i64 0, .nils], .chain m 1] 6 (.chain 1) m (tabF m (cG l l.length)) (tabF_sq _ _) rfl ?_
     simp only [List.set_cons_succ, List.set_cons_zero, List.cons_append, List.nil_append]
     refine zR (zc @hnl trivial) (zc hJ trivial) trivial ?_
     simp [Rets, aret, Blk.cells, ty, Try.results70, ares, toT1, toT, borrow, borrow0, capCell, toTree0, tint, tG, e]
end Go.Proofs.Ytgklecfiflhjmaa
