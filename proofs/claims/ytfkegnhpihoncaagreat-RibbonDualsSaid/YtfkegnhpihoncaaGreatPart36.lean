/- A part of the proof: contracts of functions of the program, and plain lemmas. -/
import Derived.Test.YtfkegnhpihoncaaGreatPart15
import Derived.Test.YtfkegnhpihoncaaGreatPart35
import Derived.Test.YtfkegnhpihoncaaGreatPart32
import Derived.Test.YtfkegnhpihoncaaGreatPart08
import Derived.Test.YtfkegnhpihoncaaGreatPart11
set_option linter.all false
namespace Go.Proofs.YtfkegnhpihoncaaGreat
open Go.Sp
set_option linter.unusedSimpArgs false
set_option linter.unusedVariables false
set_option maxHeartbeats 4000000
set_option maxRecDepth 100000
def ofF (r : R) (x : Nat) : Int := ofN (fR (endsL r.es) r.ar) (2 * (endsL r.es).length) (2 * (endsL r.es).length) x
def joinsR (r : R) : List (Int × Int) := (List.range (endsL r.es).length).map fun i => (ofF r (2 * i), ofF r (2 * i + 1))
noncomputable def dualM (r : R) : G × Int := makeE (facesR r).length (joinsR r)
noncomputable def dualE (r : R) : Int := if ribE r ≠ 0 then ribE r else if 12 < (facesR r).length then 5 else (dualM r).2
def dualH (O N : List Int) (x : Int) : Int :=
 2 * N.getD (x.toNat / 2) 0 + (if O.getD (oppH x.toNat) 0 < O.getD x.toNat 0 ∨ (O.getD x.toNat 0 = O.getD (oppH x.toNat) 0 ∧ x.toNat % 2 = 1) then 1 else 0)
def dualAr (r : R) : List (List Int) := (facesI r).map fun l => turnL (l.map (dualH (tabI (2 * (endsL r.es).length) (ofF r)) (numI (joinsR r))))
noncomputable def dualD (r : R) : R := if dualE r ≠ 0 then ⟨0, [], []⟩ else ⟨(dualM r).1.n, (dualM r).1.es, dualAr r⟩
noncomputable def dualN (r : R) : List Int := if dualE r ≠ 0 then [] else numI (joinsR r)
theorem joinsR_len (r : R) : (joinsR r).length = (endsL r.es).length := by simp [joinsR]
theorem numI_len (L : List (Int × Int)) : (numI L).length = L.length := tabI_len _ _
theorem numI_range (L : List (Int × Int)) {v : Int} (h : v ∈ numI L) : 0 ≤ v ∧ v ≤ L.length := by
 obtain ⟨e, _, rfl⟩ := List.mem_map.1 h
 refine ⟨by omega, ?_⟩
 have := List.length_filter_le (fun f => decide (ltN L f e)) (List.range L.length)
 rw [List.length_range] at this
 omega
def jK (O : List Int) (m k : Nat) : List (Int × Int) := (List.range m).map fun i => if i < k then (O.getD (2 * i) 0, O.getD (2 * i + 1) 0) else (0, 0)
theorem jK_len (O : List Int) (m k : Nat) : (jK O m k).length = m := by simp [jK]
theorem jK_get {O : List Int} {m k i : Nat} (h : i < m) : (jK O m k)[i]? = some (if i < k then (O.getD (2 * i) 0, O.getD (2 * i + 1) 0) else (0, 0)) := by simp [jK, h]
theorem jK_step {O : List Int} {m k : Nat} (hk : k < m) : (jK O m k).set k (O.getD (2 * k) 0, O.getD (2 * k + 1) 0) = jK O m (k + 1) := by
 apply List.ext_getElem?
 intro i
 by_cases hi : i < m
 ·rw [jK_get hi]
  by_cases e : k = i
  ·subst e
   rw [List.getElem?_set_self (by rw [jK_len]; exact hk), if_pos (by omega)]
  ·rw [List.getElem?_set_ne e, jK_get hi]
   by_cases h1 : i < k
   ·rw [if_pos h1, if_pos (by omega)]
   ·rw [if_neg h1, if_neg (by omega)]
 ·rw [List.getElem?_eq_none (by rw [List.length_set, jK_len]; omega), List.getElem?_eq_none (by rw [jK_len]; omega)]
theorem made_pairs : ∀ m : Nat, madeA [ACell.int .i64 0, ACell.int .i64 0] m = pC (List.replicate m (0, 0))
 | 0 => rfl
 | m + 1 => by
  have ih := made_pairs m
  unfold madeA pC at ih ⊢
  rw [List.replicate_succ, List.replicate_succ, List.flatten_cons, List.flatMap_cons, ih]
theorem jK_zero (O : List Int) (m : Nat) : madeA [ACell.int .i64 0, ACell.int .i64 0] m = pC (jK O m 0) := by
 have e : jK O m 0 = List.replicate m (0, 0) := by
  unfold jK
  rw [List.eq_replicate_iff]
  exact ⟨by simp, fun x hx => by obtain ⟨i, _, rfl⟩ := List.mem_map.1 hx; rw [if_neg (by omega)]⟩
 rw [e]; exact made_pairs m
theorem jK_all (r : R) : jK (tabI (2 * (endsL r.es).length) (ofF r)) (endsL r.es).length (endsL r.es).length = joinsR r := by
 unfold jK joinsR
 refine List.map_congr_left fun i hi => ?_
 have hi' := List.mem_range.1 hi
 rw [if_pos hi', List.getD_eq_getElem?_getD, tabI_get _ (by omega), List.getD_eq_getElem?_getD, tabI_get _ (by omega)]; rfl
theorem facesI_mem {r : R} (hr : ROk r) {l : List Int} (hl : l ∈ facesI r) {x : Int} (hx : x ∈ l) : 0 ≤ x ∧ x < 2 * ((endsL r.es).length : Int) := by
 unfold facesI facesR at hl
 obtain ⟨a, ha, rfl⟩ := List.mem_map.1 hl
 obtain ⟨b, hb, rfl⟩ := List.mem_map.1 hx
 split at ha
 ·simp at ha; subst ha; cases hb
 ·obtain ⟨c, hc, rfl⟩ := List.mem_map.1 ha
  have h1 := (leadsL_mem.1 hc).1
  have := face_lt hr.perm h1 hb
  omega
theorem facesI_short {r : R} (hr : ROk r) {l : List Int} (hl : l ∈ facesI r) : l.length ≤ 2 * (endsL r.es).length := by
 unfold facesI facesR at hl
 obtain ⟨a, ha, rfl⟩ := List.mem_map.1 hl
 rw [natI_len]
 split at ha
 ·simp at ha; subst ha; simp
 ·obtain ⟨c, hc, rfl⟩ := List.mem_map.1 ha
  exact face_len hr.perm (leadsL_mem.1 hc).1
end Go.Proofs.YtfkegnhpihoncaaGreat
