/- A part of the proof: contracts of functions of the program, and plain lemmas. -/
import Derived.Test.YtfkegnhpihoncaaGreatPart24
import Derived.Test.YtfkegnhpihoncaaGreatPart02
import Derived.Test.YtfkegnhpihoncaaGreatLayerC
import Derived.Test.YtfkegnhpihoncaaGreatPart23
set_option linter.all false
namespace Go.Proofs.YtfkegnhpihoncaaGreat
open Go.Sp
set_option linter.unusedSimpArgs false
set_option linter.unusedVariables false
def rootsL (F : List Nat) (v : Nat) : List Nat := (List.range v).filter fun u => decide (rootF F 12 u = u)
def partV (F : List Nat) (v r : Nat) : List Int := ((List.range v).filter fun u => decide (rootF F 12 u = r)).map fun u : Nat => (u : Int)
def partsV (F : List Nat) (v : Nat) : List (List Int) := (rootsL F v).map (partV F v)
theorem rootsL_nodup (F : List Nat) (v : Nat) : (rootsL F v).Nodup := List.Nodup.sublist List.filter_sublist List.nodup_range
theorem rootsL_mem {F : List Nat} {v u : Nat} : u ∈ rootsL F v ↔ u < v ∧ rootF F 12 u = u := by simp [rootsL]
theorem rootsL_succ (F : List Nat) (v : Nat) : rootsL F (v + 1) = if rootF F 12 v = v then rootsL F v ++ [v] else rootsL F v := by
  unfold rootsL
  rw [List.range_succ, List.filter_append]
  by_cases h : rootF F 12 v = v <;> simp [h]
theorem rootsL_len (F : List Nat) (v : Nat) : (rootsL F v).length ≤ v := by
  unfold rootsL
  exact Nat.le_trans (List.length_filter_le _ _) (by simp)
theorem partV_succ (F : List Nat) (v r : Nat) : partV F (v + 1) r = if rootF F 12 v = r then partV F v r ++ [(v : Int)] else partV F v r := by
  unfold partV
  rw [List.range_succ, List.filter_append]
  by_cases h : rootF F 12 v = r <;> simp [h]
theorem parts_new {F : List Nat} (hF : FOk F) {v : Nat} (hv : v < 12) (h : rootF F 12 v = v) : partsV F (v + 1) = partsV F v ++ [[(v : Int)]] := by
  unfold partsV
  rw [rootsL_succ, if_pos h, List.map_append]
  congr 1
  · refine List.map_congr_left fun r hr => ?_
    have := (rootsL_mem.1 hr).1
    rw [partV_succ, if_neg (by omega)]
  · simp only [List.map_cons, List.map_nil]
    rw [partV_succ, if_pos h]
    have : partV F v v = [] := by
      unfold partV
      rw [List.map_eq_nil_iff, List.filter_eq_nil_iff]
      intro u hu
      have hu' := List.mem_range.1 hu
      have := rootF_le hF (n := 12) (v := u) (by omega)
      simp only [decide_eq_true_eq]; omega
    rw [this]; rfl
theorem parts_old {F : List Nat} {v k : Nat} (h : rootF F 12 v ≠ v) {r : Nat} (hk : (rootsL F v)[k]? = some r) (hr : rootF F 12 v = r) : (rootsL F (v + 1)) = rootsL F v ∧ (partsV F v)[k]? = some (partV F v r) ∧ partsV F (v + 1) = (partsV F v).set k (partV F v r ++ [(v : Int)]) := by
  have e1 : rootsL F (v + 1) = rootsL F v := by rw [rootsL_succ, if_neg h]
  refine ⟨e1, by simp [partsV, hk], ?_⟩
  unfold partsV
  rw [e1]
  apply List.ext_getElem?
  intro i
  have hkl := (List.getElem?_eq_some_iff.1 hk).1
  by_cases e : k = i
  · subst e
    rw [List.getElem?_set_self (by simpa using hkl), List.getElem?_map, hk]
    simp only [Option.map_some]
    rw [partV_succ, if_pos hr]
  · rw [List.getElem?_set_ne e, List.getElem?_map, List.getElem?_map]
    cases hi : (rootsL F v)[i]? with
    | none => rfl
    | some s =>
      simp only [Option.map_some]
      rw [partV_succ, if_neg]
      intro hs
      obtain ⟨hil, e2⟩ := List.getElem?_eq_some_iff.1 hi
      obtain ⟨_, e3⟩ := List.getElem?_eq_some_iff.1 hk
      have hnd := rootsL_nodup F v
      rw [List.Nodup, List.pairwise_iff_getElem] at hnd
      have e4 : (rootsL F v)[k] = (rootsL F v)[i] := by rw [e2, e3, ← hr, hs]
      rcases Nat.lt_or_gt_of_ne e with h | h
      · exact hnd k i hkl hil h e4
      · exact hnd i k hil hkl h e4.symm
def mR : Nat → List Nat → List (MKey × MV)
  | _, [] => []
  | b, r :: l => (.int r, .c (.int .i64 (b : Int))) :: mR (b + 1) l
theorem mR_none : ∀ (b : Nat) (l : List Nat) (r : Nat), r ∉ l → mIdx (mR b l) (.int r) = none
  | b, [], r, _ => rfl
  | b, x :: l, r, h => by
    have h1 : ¬ x = r := fun e => h (by simp [e])
    have h2 := mR_none (b + 1) l r (fun hm => h (by simp [hm]))
    unfold mIdx at h2 ⊢
    simp only [mR, List.findIdx?_cons, h2, Option.map_none]
    rw [if_neg]
    intro e
    have : (MKey.int (x : Int)) = .int r := by simpa using e
    injection this with e
    exact h1 (by omega)
theorem mR_at : ∀ (b : Nat) (l : List Nat) (k r : Nat), l.Nodup → l[k]? = some r → mIdx (mR b l) (.int r) = some k ∧ (mR b l)[k]? = some (.int r, .c (.int .i64 ((b + k : Nat) : Int)))
  | b, [], k, r, _, h => by simp at h
  | b, x :: l, 0, r, _, h => by
    simp at h; subst h
    simp [mIdx, mR, List.findIdx?_cons]
  | b, x :: l, k + 1, r, hn, h => by
    rw [List.nodup_cons] at hn
    have h' : l[k]? = some r := by simpa using h
    obtain ⟨q1, q2⟩ := mR_at (b + 1) l k r hn.2 h'
    have h1 : ¬ x = r := fun e => hn.1 (by rw [e]; exact List.mem_of_getElem? h')
    constructor
    · unfold mIdx at q1 ⊢
      simp only [mR, List.findIdx?_cons, q1, Option.map_some]
      rw [if_neg]
      intro e
      have : (MKey.int (x : Int)) = .int r := by simpa using e
      injection this with e
      exact h1 (by omega)
    · simp only [mR, List.getElem?_cons_succ, q2]
      rw [show b + 1 + k = b + (k + 1) by omega]
theorem mR_val {l : List Nat} {k r : Nat} (hn : l.Nodup) (h : l[k]? = some r) (z : MV) : mVal (mR 0 l) (.int r) z = .c (.int .i64 (k : Int)) := by
  obtain ⟨q1, q2⟩ := mR_at 0 l k r hn h
  unfold mVal
  simp [q1, q2]
theorem mR_snoc : ∀ (b : Nat) (l : List Nat) (r : Nat), mR b (l ++ [r]) = mR b l ++ [(.int r, .c (.int .i64 ((b + l.length : Nat) : Int)))]
  | b, [], r => by simp [mR]
  | b, x :: l, r => by
    have := mR_snoc (b + 1) l r
    simp only [List.cons_append, mR, this, List.length_cons]
    rw [show b + 1 + l.length = b + (l.length + 1) by omega]
theorem mR_put {l : List Nat} {r : Nat} (h : r ∉ l) : mPut (mR 0 l) (.int r) (.c (.int .i64 (l.length : Int))) = mR 0 (l ++ [r]) := by
  unfold mPut
  rw [mR_none 0 l r h, mR_snoc]
  simp
theorem klInts_ok : ∀ {b : Nat} {l : List Nat}, ∀ e, e ∈ mR b l → KShape.ok .int e.1 = true
  | b, [], e, h => by simp [mR] at h
  | b, x :: l, e, h => by
    rcases List.mem_cons.1 h with rfl | h
    · rfl
    · exact klInts_ok e h
end Go.Proofs.YtfkegnhpihoncaaGreat
set_option linter.all false
namespace Go.Proofs.YtfkegnhpihoncaaGreat
open Go.Sp
set_option linter.unusedSimpArgs false
set_option linter.unusedVariables false
theorem rootsN_filter (F : List Nat) (k : Nat) : rootsN F k = ((List.range k).filter fun v => decide (F[v]? = some v)).length := by
  induction k with
  | zero => rfl
  | succ k ih =>
    simp only [rootsN]
    rw [ih, List.range_succ, List.filter_append, List.length_append]
    by_cases h : F[k]? = some k <;> simp [h]
end Go.Proofs.YtfkegnhpihoncaaGreat
