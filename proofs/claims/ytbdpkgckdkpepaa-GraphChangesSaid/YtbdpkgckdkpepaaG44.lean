/- A part of the proof: contracts of functions of the program, or plain lemmas. -/
import Derived.Test.YtbdpkgckdkpepaaG43
set_option linter.all false
namespace Go.Proofs.Ytbdpkgckdkpepaa
open Go.Sp
set_option linter.unusedSimpArgs false
set_option linter.unusedVariables false
set_option maxHeartbeats 4000000
set_option maxRecDepth 100000



def treesI (r : List Int) : List Tree := r.map fun x => Tree.int .i64 x
def roB (r : List Int) : Blk := .ro (treesI r)
section
variable {P : Program} {rd : Option Nat} {h : Nat} {Q : Exit → St → Prop} {c : Code} {tm : List AVal}
theorem table_data (pre : List Blk) (t : Nat) (tok : Tok) (n : Nat) (T : List (List Int)) (hT : Sq n T) (ht : tm[t]? = some (.c (.rows (refsT pre.length n n) tok)))
    (hw : AWp P rd h c Q ⟨tm.set t (.c (.slice (tabRows T) .none)), pre ++ T.map roB⟩) : AWp P rd h c Q ⟨tm, pre ++ T.map rowB⟩ := by
  have e1 : T.map rowB = (T.map fun r => (iC r, treesI r)).map fun p => Blk.box p.1 := by rw [List.map_map]; rfl
  have e2 : T.map roB = (T.map fun r => (iC r, treesI r)).map fun p => Blk.ro p.2 := by rw [List.map_map]; rfl
  rw [e1]
  refine AWp.freezeL _ pre (fun p hp => ?_) ?_
  · obtain ⟨r, _, rfl⟩ := List.mem_map.1 hp
    exact iC_trees r
  rw [← e2]
  refine AWp.rowsData t (refsT pre.length n n) tok (T.map fun r => Tree.slice (iRows r)) ht (by rw [refsT_len, List.length_map, hT.len]) (fun i r hr => ?_) hw
  have hi : i < n := by have := (List.getElem?_eq_some_iff.1 hr).1; rwa [refsT_len] at this
  rw [refsT_get hi] at hr
  cases hr
  have hil : i < T.length := by rw [hT.len]; exact hi
  have hrl := hT.row _ (List.getElem_mem hil)
  refine ⟨_, .slice (iRows T[i]), rfl, by rw [List.getElem?_map, List.getElem?_eq_getElem hil]; rfl, fun ι σ w u hH hu => ?_⟩
  refine ro_slice (ts := treesI T[i]) hH ?_ hu (by rw [iRows_len]; exact hrl) (Nat.le_refl _) (fun r hr => iRows_k' hr) (iRows_pre T[i])
  rw [List.getElem?_append_right (by omega), Nat.add_sub_cancel, List.getElem?_map, List.getElem?_eq_getElem hil]; rfl
end
theorem tab_get {T : List (List Int)} {i : Nat} {r : List Int} (h : T[i]? = some r) : (T.map rowB)[i]? = some (.box (iC r)) := by rw [List.getElem?_map, h]; rfl
theorem tab_set (T : List (List Int)) (i : Nat) (r : List Int) : (T.map rowB).set i (.box (iC r)) = (T.set i r).map rowB := by rw [List.map_set]; rfl
def tabF (n : Nat) (g : Nat → Nat → Int) : List (List Int) := (List.range n).map fun a => (List.range n).map fun b => g a b
theorem tabF_sq (n : Nat) (g : Nat → Nat → Int) : Sq n (tabF n g) := ⟨by simp [tabF], fun r hr => by obtain ⟨a, _, rfl⟩ := List.mem_map.1 hr; simp⟩
@[simp] theorem tabF_take (n : Nat) (g : Nat → Nat → Int) : (tabF n g).take n = tabF n g := List.take_of_length_le (by rw [(tabF_sq n g).len]; exact Nat.le_refl _)
@[simp] theorem tab_take (n : Nat) (g : Nat → Nat → Int) : ((tabF n g).map rowB).take n = (tabF n g).map rowB := List.take_of_length_le (by rw [List.length_map, (tabF_sq n g).len]; exact Nat.le_refl _)
theorem tabF_row {n : Nat} (g : Nat → Nat → Int) {a : Nat} (ha : a < n) : (tabF n g)[a]? = some ((List.range n).map fun b => g a b) := by simp [tabF, ha]
theorem tabF_cell {n : Nat} (g : Nat → Nat → Int) {a b : Nat} (ha : a < n) (hb : b < n) : cellT (tabF n g) a b = g a b := by
  unfold cellT
  rw [List.getD_eq_getElem?_getD (l := tabF n g), tabF_row g ha, Option.getD_some, List.getD_eq_getElem?_getD]; simp [hb]
theorem tabF_congr {n : Nat} {g f : Nat → Nat → Int} (h : ∀ a b, a < n → b < n → g a b = f a b) : tabF n g = tabF n f := by
  unfold tabF
  refine List.map_congr_left fun a ha => List.map_congr_left fun b hb => h a b (List.mem_range.1 ha) (List.mem_range.1 hb)
theorem tabF_set {n : Nat} (g : Nat → Nat → Int) {a b : Nat} (ha : a < n) (hb : b < n) (x : Int) : (tabF n g).set a (((List.range n).map fun b => g a b).set b x) = tabF n (fun i j => if i = a ∧ j = b then x else g i j) := by
  apply List.ext_getElem?
  intro i
  by_cases hi : i < n
  · rw [tabF_row _ hi]
    by_cases e : a = i
    · subst e
      rw [List.getElem?_set_self (by rw [(tabF_sq n g).len]; exact ha)]
      congr 1
      apply List.ext_getElem?
      intro j
      by_cases e2 : b = j
      · subst e2; rw [List.getElem?_set_self (by simpa using hb)]; simp [hb]
      · rw [List.getElem?_set_ne e2]
        by_cases hj : j < n
        · simp [hj, Ne.symm e2]
        · simp [hj]
    · rw [List.getElem?_set_ne e, tabF_row _ hi]
      congr 1
      refine List.map_congr_left fun j _ => ?_
      rw [if_neg (by omega)]
  · rw [List.getElem?_eq_none (by rw [List.length_set, (tabF_sq n g).len]; omega), List.getElem?_eq_none (by rw [(tabF_sq n _).len]; omega)]
theorem rep_tab (n : Nat) (g : Nat → Nat → Int) (h : ∀ a b, g a b = 0) : List.replicate n (rowB (List.replicate n 0)) = (tabF n g).map rowB := by
  have e : tabF n g = List.replicate n (List.replicate n 0) := by
    unfold tabF
    rw [List.eq_replicate_iff]
    refine ⟨by simp, fun r hr => ?_⟩
    obtain ⟨a, _, rfl⟩ := List.mem_map.1 hr
    rw [List.eq_replicate_iff]
    refine ⟨by simp, fun x hx => ?_⟩
    obtain ⟨b, _, rfl⟩ := List.mem_map.1 hx
    exact h a b
  rw [e, List.map_replicate]
def gI (f : Nat → Nat → Int) (i k a b : Nat) : Int := if a ≤ b ∧ (a < i ∨ (a = i ∧ b < k)) then f a b else 0
def pairF (es : List E) (l : List Int) (a b : Nat) : Int := cntL es (min (l.getD a 0) (l.getD b 0)) (max (l.getD a 0) (l.getD b 0))
end Go.Proofs.Ytbdpkgckdkpepaa
