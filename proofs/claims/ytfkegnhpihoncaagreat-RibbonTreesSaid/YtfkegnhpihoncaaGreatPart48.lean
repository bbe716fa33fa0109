/- A part of the proof. -/
import Derived.Test.YtfkegnhpihoncaaGreatPart47
import Derived.Test.YtfkegnhpihoncaaGreatPart46
import Derived.Test.YtfkegnhpihoncaaGreatPart42
import Derived.Test.YtfkegnhpihoncaaGreatPart26
import Derived.Test.YtfkegnhpihoncaaGreatLayerC
set_option linter.all false
set_option maxHeartbeats 4000000
set_option maxRecDepth 100000
namespace Go.Proofs.YtfkegnhpihoncaaGreat
open Go.Sp
def natZ (T : List Nat) : List Int := T.map fun x : Nat => (x : Int)
theorem tree_nat {g : G} {n : Nat} (hn : g.n = n) (h0 : 0 < n) (hL : InN n (endsL g.es)) {t : List Int} (ht : treeE g t = 0) : ∃ T, t = natZ T ∧ T ∈ allT n (endsL g.es) := by
 unfold treeE at ht
 split at ht
 ·rename_i h; exact absurd ht (by simpa using h)
 split at ht
 ·rename_i h; exact absurd ht (by simpa using h)
 split at ht
 ·omega
 split at ht
 case isFalse => omega
 rename_i hj hs hl hb
 have hs0 : subE (endsL g.es).length none t = 0 := by simpa using hs
 obtain ⟨h1, h2, _⟩ := subE_facts hs0
 have hnn : g.n.toNat = n := by omega
 rw [hnn] at hb
 have hb2 := (treeB_acyc h0 hL h1).1 hb
 have e : t = natZ (t.map Int.toNat) := by
  unfold natZ
  rw [List.map_map]
  have : ∀ x, x ∈ t → x = ((fun x : Nat => (x : Int)) ∘ Int.toNat) x := fun x hx => by have := h1 x hx; simp only [Function.comp]; omega
  conv => lhs; rw [← List.map_id t]
  exact List.map_congr_left fun x hx => this x hx
 refine ⟨t.map Int.toNat, e, allT_mem.2 ⟨?_, ?_, ?_, ?_⟩⟩
 ·rw [List.pairwise_map]
  exact h2.imp_of_mem fun ha hb q => by have := h1 _ ha; have := h1 _ hb; omega
 ·intro x hx
  obtain ⟨y, hy, rfl⟩ := List.mem_map.1 hx
  have := h1 y hy; omega
 ·rw [List.length_map]; have := hb2.2; omega
 ·rw [pkN_pkL]
  have e2 : (List.map (fun e : Nat => (e : Int)) (t.map Int.toNat)) = t := e.symm
  rw [e2]; exact hb2.1
theorem nat_tree {g : G} {n : Nat} (hn : g.n = n) (h0 : 0 < n) (hL : InN n (endsL g.es)) (hj : joinedE g = 0) {T : List Nat} (hT : T ∈ allT n (endsL g.es)) : treeE g (natZ T) = 0 := by
 obtain ⟨h1, h2, h3, h4⟩ := allT_mem.1 hT
 have hr : ∀ x, x ∈ natZ T → 0 ≤ x ∧ x < ((endsL g.es).length : Int) := fun x hx => by
  obtain ⟨y, hy, rfl⟩ := List.mem_map.1 hx
  have := h2 y hy; omega
 have hs : subE (endsL g.es).length none (natZ T) = 0 := subE_zero hr (by
  unfold natZ
  rw [List.pairwise_map]
  exact h1.imp fun q => by omega) (fun w hw => by cases hw)
 have hl : ((natZ T).length : Int) = g.n - 1 := by unfold natZ; rw [List.length_map]; omega
 unfold treeE
 rw [if_neg (by simpa using hj), if_neg (by simpa using hs), if_neg (by simpa using hl), if_pos]
 rw [show g.n.toNat = n by omega]
 refine (treeB_acyc h0 hL hr).2 ⟨?_, by omega⟩
 have e := pkN_pkL (endsL g.es) T
 unfold natZ
 rw [← e]; exact h4
theorem Rib.cot_eq {r : R} (h : Rib r) (hr : ribE r = 0) {T : List Nat} (hT : T ∈ allT r.n.toNat (endsL r.es)) (hc : cotE r (natZ T) = 0) : cotR r (natZ T) = natZ (coT r T) := by
 obtain ⟨h1, h2, h3, h4⟩ := allT_mem.1 hT
 unfold cotR
 rw [if_neg (by simpa using hc), (h.dual_eq hr).2]
 symm
 refine sortI_of ?_ ?_
 ·unfold natZ
  rw [List.pairwise_map]
  exact (comp_lt _ _).imp fun q => by omega
 ·have hN : (numI (joinsR r)).length = (endsL r.es).length := by rw [numI_len, joinsR_len]
  have hnum : ∀ i, i < (endsL r.es).length → (numI (joinsR r)).getD i 0 = ((numN (joinsR r) i : Nat) : Int) := fun i hi => dual_num (by rw [joinsR_len]; exact hi)
  rw [hN]
  have hm : ∀ i : Nat, ((i : Int) ∈ natZ T ↔ i ∈ T) := fun i => by
   unfold natZ
   rw [List.mem_map]
   exact ⟨fun ⟨y, hy, e⟩ => by have : y = i := by omega
                               exact this ▸ hy, fun h => ⟨i, h, rfl⟩⟩
  refine (List.perm_ext_iff_of_nodup ?_ ?_).2 fun z => ?_
  ·unfold natZ
   exact map_nodup (up_nodup (comp_lt _ _)) fun x y _ _ e => by omega
  ·unfold cotL
   refine map_nodup (List.nodup_range.filter _) fun x y hx hy e => ?_
   have hx1 := List.mem_range.1 (List.mem_filter.1 hx).1
   have hy1 := List.mem_range.1 (List.mem_filter.1 hy).1
   rw [hnum x hx1, hnum y hy1] at e
   exact h.ninj hx1 hy1 (by omega)
  ·unfold cotL natZ
   simp only [List.mem_map, List.mem_filter, List.mem_range]
   constructor
   ·rintro ⟨y, hy, rfl⟩
    obtain ⟨e, he, rfl⟩ := h.nonto (comp_mem.1 hy).1
    have hne := (h.coT_mem h2 he).1 hy
    refine ⟨e, ⟨he, ?_⟩, hnum e he⟩
    have := (not_congr (hm e)).2 hne
    unfold natZ at this
    simpa [List.mem_map] using this
   ·rintro ⟨e, ⟨he, hne⟩, rfl⟩
    refine ⟨numN (joinsR r) e, (h.coT_mem h2 he).2 (fun q => ?_), (hnum e he).symm⟩
    have := (hm e).2 q
    unfold natZ at this
    rw [List.mem_map] at this
    simp at hne
    obtain ⟨y, hy, q2⟩ := this
    exact hne y hy q2
end Go.Proofs.YtfkegnhpihoncaaGreat
