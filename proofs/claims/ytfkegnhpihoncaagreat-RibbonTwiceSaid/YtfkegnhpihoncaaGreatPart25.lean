/- A part of the proof: contracts of functions of the program, and plain lemmas. -/
import Derived.Test.YtfkegnhpihoncaaGreatPart24
import Derived.Test.YtfkegnhpihoncaaGreatLayerC
import Derived.Test.YtfkegnhpihoncaaGreatPart18
import Derived.Test.YtfkegnhpihoncaaGreatPart20
import Derived.Test.YtfkegnhpihoncaaGreatPart21
import Derived.Test.YtfkegnhpihoncaaGreatPart13
import Derived.Test.YtfkegnhpihoncaaGreatPart07
import Derived.Test.YtfkegnhpihoncaaGreatPart04
set_option linter.all false
namespace Go.Proofs.YtfkegnhpihoncaaGreat
open Go.Sp
set_option linter.unusedSimpArgs false
set_option linter.unusedVariables false
def befL : List Int → List Int → Bool
  | [], [] => false
  | [], _ :: _ => true
  | _ :: _, [] => false
  | a :: us, b :: vs => if a = b then befL us vs else decide (a < b)
theorem bef_asymm : ∀ a b : List Int, befL a b = true → befL b a = false
  | [], [], h => by simp [befL] at h
  | [], _ :: _, _ => rfl
  | _ :: _, [], h => by simp [befL] at h
  | a :: us, b :: vs, h => by
    simp only [befL] at h ⊢
    by_cases e : a = b
    · rw [if_pos e] at h; rw [if_pos e.symm]; exact bef_asymm us vs h
    · rw [if_neg e] at h; rw [if_neg (fun x => e x.symm)]
      rw [decide_eq_true_eq] at h; rw [decide_eq_false_iff_not]; omega
theorem bef_anti : ∀ a b : List Int, befL a b = false → befL b a = false → a = b
  | [], [], _, _ => rfl
  | [], _ :: _, h, _ => by simp [befL] at h
  | _ :: _, [], _, h => by simp [befL] at h
  | a :: us, b :: vs, h, h2 => by
    simp only [befL] at h h2
    by_cases e : a = b
    · rw [if_pos e] at h; rw [if_pos e.symm] at h2; rw [e, bef_anti us vs h h2]
    · rw [if_neg e] at h; rw [if_neg (fun x => e x.symm)] at h2
      rw [decide_eq_false_iff_not] at h h2; omega
theorem bef_trans : ∀ a b c : List Int, befL b a = false → befL c b = false → befL c a = false
  | [], _, [], _, _ => rfl
  | _ :: _, [], [], h, _ => by simp [befL] at h
  | a :: us, _, [], h, h2 => by
    rename_i x
    cases x with
    | nil => simp [befL] at h
    | cons b vs => simp [befL] at h2
  | [], _, _ :: _, _, _ => rfl
  | a :: us, [], c :: ws, h, h2 => by simp [befL] at h
  | a :: us, b :: vs, c :: ws, h, h2 => by
    simp only [befL] at h h2 ⊢
    by_cases e1 : b = a
    · subst e1
      rw [if_pos rfl] at h
      by_cases e2 : c = b
      · rw [if_pos e2] at h2 ⊢; exact bef_trans us vs ws h h2
      · rw [if_neg e2] at h2 ⊢; exact h2
    · rw [if_neg e1, decide_eq_false_iff_not] at h
      by_cases e2 : c = b
      · rw [if_pos e2] at h2
        rw [if_neg (by omega), decide_eq_false_iff_not]; omega
      · rw [if_neg e2, decide_eq_false_iff_not] at h2
        rw [if_neg (by omega), decide_eq_false_iff_not]; omega
def sortLL (l : List (List Int)) : List (List Int) := l.mergeSort fun a b => !befL b a
theorem sortLL_perm (l : List (List Int)) : (sortLL l).Perm l := List.mergeSort_perm l _
theorem sortLL_le (l : List (List Int)) : (sortLL l).Pairwise fun a b => befL b a = false := by
  have := List.pairwise_mergeSort (le := fun a b : List Int => !befL b a) (fun a b c h1 h2 => by
    simp only [Bool.not_eq_true'] at *; exact bef_trans a b c h1 h2) (fun a b => by
    cases h : befL b a with
    | false => simp
    | true => simp [bef_asymm _ _ h]) l
  exact this.imp fun h => by simpa using h
theorem sortLL_of {l m : List (List Int)} (hs : m.Pairwise fun a b => befL b a = false) (hp : m.Perm l) : m = sortLL l :=
  List.Perm.eq_of_pairwise (le := fun a b : List Int => befL b a = false) (fun a b _ _ h1 h2 => bef_anti a b h2 h1) hs (sortLL_le l) (hp.trans (sortLL_perm l).symm)
theorem sortLL_congr {l m : List (List Int)} (h : l.Perm m) : sortLL l = sortLL m := (sortLL_of (sortLL_le l) ((sortLL_perm l).trans h))
theorem insL_sort {S m : List (List Int)} {x : List Int} {k : Nat} (hS : S = sortLL m) (hk : k ≤ S.length) (h1 : ∀ j y, k ≤ j → S[j]? = some y → befL x y = true) (h2 : ∀ j y, j + 1 = k → S[j]? = some y → befL x y = false) :
    S.take k ++ [x] ++ S.drop k = sortLL (m ++ [x]) := by
  have hp := sortLL_le m
  rw [← hS] at hp
  have hp2 := hp
  rw [← List.take_append_drop k S, List.pairwise_append] at hp2
  have ha : ∀ a, a ∈ S.take k → befL x a = false := fun a ha => by
    obtain ⟨i, hi, rfl⟩ := List.getElem_of_mem ha
    rw [List.length_take] at hi
    rw [List.getElem_take]
    have hkl : k - 1 < S.length := by omega
    have h3 := h2 (k - 1) S[k - 1] (by omega) (List.getElem?_eq_getElem hkl)
    by_cases e : i = k - 1
    · subst e; exact h3
    · exact bef_trans _ _ _ (List.pairwise_iff_getElem.1 hp i (k - 1) (by omega) hkl (by omega)) h3
  have hb : ∀ b, b ∈ S.drop k → befL x b = true := fun b hb => by
    obtain ⟨i, hi, rfl⟩ := List.getElem_of_mem hb
    rw [List.length_drop] at hi
    rw [List.getElem_drop]
    exact h1 (k + i) _ (by omega) (List.getElem?_eq_getElem (by omega))
  refine sortLL_of ?_ ?_
  · rw [List.append_assoc, List.pairwise_append]
    refine ⟨hp2.1, ?_, ?_⟩
    · rw [List.singleton_append, List.pairwise_cons]
      exact ⟨fun b hb' => bef_asymm _ _ (hb b hb'), hp2.2.1⟩
    · intro a ha' b hb'
      rcases List.mem_append.1 hb' with h | h
      · obtain rfl := List.mem_singleton.1 h; exact ha a ha'
      · exact bef_trans _ _ _ (ha a ha') (bef_asymm _ _ (hb b h))
  · have e1 : (S.take k ++ [x] ++ S.drop k).Perm (x :: (S.take k ++ S.drop k)) := by
      rw [List.append_assoc, List.singleton_append]; exact List.perm_middle
    rw [List.take_append_drop] at e1
    refine e1.trans ?_
    rw [hS]
    exact ((sortLL_perm m).cons x).trans (List.perm_append_singleton x m).symm
def invS (nums : List Int) (fl : List Bool) (T : List Int) (e : Nat) : List Int :=
  (T.set (2 * (nums.getD e 0).toNat) (if fl.getD e false = true then 2 * (e : Int) + 1 else 2 * (e : Int))).set (2 * (nums.getD e 0).toNat + 1) (if fl.getD e false = true then 2 * (e : Int) else 2 * (e : Int) + 1)
def invK (nums : List Int) (fl : List Bool) (k : Nat) : List Int := (List.range k).foldl (invS nums fl) (List.replicate (2 * nums.length) 0)
theorem invK_succ (nums : List Int) (fl : List Bool) (k : Nat) : invK nums fl (k + 1) = invS nums fl (invK nums fl k) k := by
  unfold invK; rw [List.range_succ, List.foldl_append]; rfl
theorem invK_len (nums : List Int) (fl : List Bool) : ∀ k, (invK nums fl k).length = 2 * nums.length
  | 0 => by simp [invK]
  | k + 1 => by rw [invK_succ]; unfold invS; rw [List.length_set, List.length_set, invK_len nums fl k]
theorem inv_get {nums : List Int} {fl : List Bool} {N : Nat → Nat} (hN : ∀ e, e < nums.length → nums[e]? = some (N e : Int) ∧ N e < nums.length) (hi : ∀ e f, e < nums.length → f < nums.length → N e = N f → e = f) :
    ∀ k, k ≤ nums.length → ∀ e, e < k → (invK nums fl k)[2 * N e]? = some (if fl.getD e false = true then 2 * (e : Int) + 1 else 2 * (e : Int)) ∧ (invK nums fl k)[2 * N e + 1]? = some (if fl.getD e false = true then 2 * (e : Int) else 2 * (e : Int) + 1)
  | 0, _, e, he => absurd he (Nat.not_lt_zero _)
  | k + 1, hk, e, he => by
    have hk' := hN k (by omega)
    have hlen := invK_len nums fl k
    have hg : (nums.getD k 0).toNat = N k := by rw [List.getD_eq_getElem?_getD, hk'.1]; rfl
    rw [invK_succ]
    unfold invS
    rw [hg]
    by_cases hek : e = k
    · subst hek
      refine ⟨?_, ?_⟩
      · rw [List.getElem?_set_ne (by omega), List.getElem?_set_self (by omega)]
      · rw [List.getElem?_set_self (by rw [List.length_set]; omega)]
    · have ih := inv_get (fl := fl) hN hi k (by omega) e (by omega)
      have hne : N e ≠ N k := fun h => hek (hi e k (by omega) (by omega) h)
      refine ⟨?_, ?_⟩
      · rw [List.getElem?_set_ne (by omega), List.getElem?_set_ne (by omega)]; exact ih.1
      · rw [List.getElem?_set_ne (by omega), List.getElem?_set_ne (by omega)]; exact ih.2
theorem inv_vals {nums : List Int} {fl : List Bool} (hN : ∀ e, e < nums.length → 0 ≤ nums.getD e 0) : ∀ k, k ≤ nums.length → ∀ x, x ∈ invK nums fl k → 0 ≤ x ∧ x < max 1 (2 * (nums.length : Int))
  | 0, _, x, hx => by
    have := List.eq_of_mem_replicate hx; omega
  | k + 1, hk, x, hx => by
    rw [invK_succ] at hx
    unfold invS at hx
    rcases List.mem_or_eq_of_mem_set hx with hx | rfl
    · rcases List.mem_or_eq_of_mem_set hx with hx | rfl
      · exact inv_vals hN k (by omega) x hx
      · split <;> omega
    · split <;> omega
def flB (m bits : Nat) : List Bool := (List.range m).map fun i => decide (bits / 2 ^ i % 2 = 1)
theorem flB_get {m bits i : Nat} (h : i < m) : (flB m bits).getD i false = decide (bits / 2 ^ i % 2 = 1) := by
  rw [List.getD_eq_getElem?_getD]; simp [flB, h]
theorem bits_ex (F : Nat → Bool) : ∀ m, ∃ B, B < 2 ^ m ∧ ∀ i, i < m → (decide (B / 2 ^ i % 2 = 1) = F i)
  | 0 => ⟨0, by simp, fun i h => absurd h (Nat.not_lt_zero _)⟩
  | m + 1 => by
    obtain ⟨B, h1, h2⟩ := bits_ex F m
    have hp : 0 < 2 ^ m := Nat.pos_of_ne_zero (by simp)
    refine ⟨B + (if F m then 2 ^ m else 0), ?_, fun i hi => ?_⟩
    · rw [Nat.pow_succ]; split <;> omega
    · by_cases e : i = m
      · subst e
        cases hF : F i with
        | true => simp only [if_true]; rw [Nat.add_div_right _ hp, Nat.div_eq_of_lt h1]; rfl
        | false => simp only [Bool.false_eq_true, if_false, Nat.add_zero]; rw [Nat.div_eq_of_lt h1]; rfl
      · rw [← h2 i (by omega)]
        congr 1
        split
        · obtain ⟨j, rfl⟩ : ∃ j, m = i + (j + 1) := ⟨m - i - 1, by omega⟩
          rw [show 2 ^ (i + (j + 1)) = 2 ^ i * (2 * 2 ^ j) by rw [Nat.pow_add, Nat.pow_succ, Nat.mul_comm (2 ^ j) 2], Nat.add_mul_div_left _ _ (Nat.pos_of_ne_zero (by simp))]
          rw [Nat.add_mul_mod_self_left]
        · rfl
def behI (to back : List Int) (k : Nat) : List Int := (List.range back.length).map fun j => if j < k then to.getD (back.getD j 0).toNat 0 else back.getD j 0
theorem behI_len (to back : List Int) (k : Nat) : (behI to back k).length = back.length := by simp [behI]
theorem behI_get {to back : List Int} {k j : Nat} (h : j < back.length) : (behI to back k)[j]? = some (if j < k then to.getD (back.getD j 0).toNat 0 else back.getD j 0) := by simp [behI, h]
theorem behI_zero (to back : List Int) : behI to back 0 = back := by
  refine ext_get (behI_len _ _ _) fun i hi => ?_
  rw [behI_len] at hi
  rw [behI_get hi, if_neg (by omega), List.getD_eq_getElem?_getD, List.getElem?_eq_getElem hi]; rfl
theorem behI_step {to back : List Int} {k : Nat} (h : k < back.length) : (behI to back k).set k (to.getD (back.getD k 0).toNat 0) = behI to back (k + 1) := by
  refine ext_get (by rw [List.length_set, behI_len, behI_len]) fun i hi => ?_
  rw [List.length_set, behI_len] at hi
  rw [behI_get hi]
  by_cases e : k = i
  · subst e
    rw [List.getElem?_set_self (by rw [behI_len]; exact h), if_pos (by omega)]
  · rw [List.getElem?_set_ne e, behI_get hi]
    by_cases c : i < k
    · rw [if_pos c, if_pos (by omega)]
    · rw [if_neg c, if_neg (by omega)]
def renL (to : List Int) (l : List Int) : List Int := turnL (l.map fun z => to.getD z.toNat 0)
section
variable {r : R}
theorem num_get {e : Nat} (he : e < (joinsR r).length) : (numI (joinsR r))[e]? = some ((numN (joinsR r) e : Nat) : Int) := by
  unfold numI; rw [tabI_get _ he]; rfl
theorem inv_dual {fl : List Bool} {x : Nat} (hx : x < 2 * (endsL r.es).length) :
    (invK (numI (joinsR r)) fl (joinsR r).length)[dD r x]? = some (if fl.getD (x / 2) false = twB (ofF r) (2 * (x / 2)) then (x : Int) else ((oppH x : Nat) : Int)) := by
  have hJ := joinsR_len r
  have hnl := numI_len (joinsR r)
  have g := inv_get (nums := numI (joinsR r)) (fl := fl) (N := numN (joinsR r)) (fun e he => ⟨num_get (by rwa [hnl] at he), by rw [hnl]; exact num_lt (by rwa [hnl] at he)⟩) (fun e f he hf h => num_inj (by rwa [hnl] at he) (by rwa [hnl] at hf) h) _ (Nat.le_refl _) (x / 2) (by rw [hnl]; omega)
  rw [hnl] at g
  have ht := tw_opp (ofF r) (2 * (x / 2))
  have ho : oppH (2 * (x / 2)) = 2 * (x / 2) + 1 := by unfold oppH; omega
  rw [ho] at ht
  unfold dD dH
  generalize hF : fl.getD (x / 2) false = b at *
  have hxx : (x = 2 * (x / 2) ∧ oppH x = 2 * (x / 2) + 1) ∨ (x = 2 * (x / 2) + 1 ∧ oppH x = 2 * (x / 2)) := by unfold oppH; omega
  rcases hxx with ⟨q1, q2⟩ | ⟨q1, q2⟩
  · rw [q2]
    have e1 : twB (ofF r) x = twB (ofF r) (2 * (x / 2)) := by rw [← q1]
    rw [e1]
    cases b <;> cases twB (ofF r) (2 * (x / 2)) <;> simp at g ⊢ <;> first | (rw [g.1]; done) | (rw [g.2]; done) | (rw [g.1]; congr 1; omega) | (rw [g.2]; congr 1; omega)
  · rw [q2]
    have e1 : twB (ofF r) x = !twB (ofF r) (2 * (x / 2)) := by rw [← ht, ← q1]
    rw [e1]
    cases b <;> cases twB (ofF r) (2 * (x / 2)) <;> simp at g ⊢ <;> first | (rw [g.1]; done) | (rw [g.2]; done) | (rw [g.1]; congr 1; omega) | (rw [g.2]; congr 1; omega)
theorem Rib.bits (h : Rib r) : ∃ B, B < 2 ^ (endsL r.es).length ∧
    sortLL ((dualG (dualG r)).ar.map (renL (behI (invK (numI (joinsR r)) (flB (endsL r.es).length B) (joinsR r).length) (invK (numI (joinsR (dualG r))) (List.replicate (endsL r.es).length false) (joinsR (dualG r)).length) (2 * (endsL r.es).length)))) = sortLL r.ar := by
  have hd := h.dual
  have hN := h.elen
  obtain ⟨B, h1, h2⟩ := bits_ex (fun e => Bool.xor (twB (ofF r) (2 * e)) (twB (ofF (dualG r)) (2 * numN (joinsR r) e))) (endsL r.es).length
  refine ⟨B, h1, ?_⟩
  have hbl : (invK (numI (joinsR (dualG r))) (List.replicate (endsL r.es).length false) (joinsR (dualG r)).length).length = 2 * (endsL r.es).length := by rw [invK_len, numI_len, joinsR_len, hN]
  generalize hbk : invK (numI (joinsR (dualG r))) (List.replicate (endsL r.es).length false) (joinsR (dualG r)).length = back at *
  generalize hto : invK (numI (joinsR r)) (flB (endsL r.es).length B) (joinsR r).length = to at *
  have key := h.twice (γ := fun z => ((behI to back (2 * (endsL r.es).length)).getD z 0).toNat) fun x hx => by
    have hdx := h.dlt hx
    have hddx : dD (dualG r) (dD r x) < 2 * (endsL r.es).length := by have := hd.dlt (x := dD r x) (by rw [hN]; exact hdx); rwa [hN] at this
    have b1 := inv_dual (r := dualG r) (fl := List.replicate (endsL r.es).length false) (x := dD r x) (by rw [hN]; exact hdx)
    rw [hbk] at b1
    have b2 : (List.replicate (endsL r.es).length false).getD (dD r x / 2) false = false := by
      rw [List.getD_eq_getElem?_getD, List.getElem?_replicate]; split <;> rfl
    rw [b2] at b1
    have e1 : dD r x / 2 = numN (joinsR r) (x / 2) := dH_half _ _
    rw [e1] at b1
    have hfl := h2 (x / 2) (by omega)
    have hfg := flB_get (m := (endsL r.es).length) (bits := B) (i := x / 2) (by omega)
    rw [hfl] at hfg
    rw [List.getD_eq_getElem?_getD, behI_get (by rw [hbl]; exact hddx), if_pos hddx, Option.getD_some, List.getD_eq_getElem?_getD (l := back), b1, Option.getD_some]
    by_cases c : false = twB (ofF (dualG r)) (2 * numN (joinsR r) (x / 2))
    · rw [if_pos c, Int.toNat_natCast, List.getD_eq_getElem?_getD, ← hto, inv_dual hx, Option.getD_some, if_pos (by rw [hfg, ← c]; simp)]; rfl
    · rw [if_neg c, Int.toNat_natCast, ← dopp, List.getD_eq_getElem?_getD, ← hto, inv_dual (oppH_lt hx), Option.getD_some, opp_half, oppH_opp, if_neg (by
        rw [hfg]
        have : twB (ofF (dualG r)) (2 * numN (joinsR r) (x / 2)) = true := by
          cases hq : twB (ofF (dualG r)) (2 * numN (joinsR r) (x / 2)) with
          | true => rfl
          | false => exact absurd hq.symm c
        rw [this]
        cases twB (ofF r) (2 * (x / 2)) <;> simp)]; rfl
  refine sortLL_congr (List.Perm.trans (List.Perm.of_eq ?_) key)
  refine List.map_congr_left fun l _ => ?_
  unfold renL
  congr 1
  refine List.map_congr_left fun z _ => ?_
  have hnn : 0 ≤ (behI to back (2 * (endsL r.es).length)).getD z.toNat 0 := by
    have hto0 : ∀ y, y ∈ to → 0 ≤ y := fun y hy => by
      rw [← hto] at hy
      have := inv_vals (nums := numI (joinsR r)) (fl := flB (endsL r.es).length B) (fun e he => by
        rw [List.getD_eq_getElem?_getD, num_get (by rwa [numI_len] at he)]; simp) _ (by rw [numI_len]; exact Nat.le_refl _) y hy
      exact this.1
    have hbk0 : ∀ y, y ∈ back → 0 ≤ y := fun y hy => by
      rw [← hbk] at hy
      have := inv_vals (nums := numI (joinsR (dualG r))) (fl := List.replicate (endsL r.es).length false) (fun e he => by
        rw [List.getD_eq_getElem?_getD, num_get (by rwa [numI_len] at he)]; simp) _ (by rw [numI_len]; exact Nat.le_refl _) y hy
      exact this.1
    have hgd : ∀ (L : List Int) (i : Nat), (∀ y, y ∈ L → 0 ≤ y) → 0 ≤ L.getD i 0 := fun L i hL => by
      rw [List.getD_eq_getElem?_getD]
      cases hq : L[i]? with
      | none => simp
      | some y => exact hL y (List.mem_of_getElem? hq)
    refine hgd _ _ fun y hy => ?_
    obtain ⟨j, _, rfl⟩ := List.mem_map.1 hy
    split
    · exact hgd _ _ hto0
    · exact hgd _ _ hbk0
  omega
end
end Go.Proofs.YtfkegnhpihoncaaGreat
set_option linter.all false
namespace Go.Proofs.YtfkegnhpihoncaaGreat
open Go.Sp
set_option linter.unusedSimpArgs false
set_option linter.unusedVariables false
set_option maxHeartbeats 4000000
set_option maxRecDepth 100000
end Go.Proofs.YtfkegnhpihoncaaGreat
set_option linter.all false
namespace Go.Proofs.YtfkegnhpihoncaaGreat
open Go.Sp
set_option linter.unusedSimpArgs false
set_option linter.unusedVariables false
set_option maxHeartbeats 4000000
set_option maxRecDepth 100000
def tkF : Nat → Tok
  | 0 => .exact
  | _ + 1 => .chain 1
def hpF : Nat → List Blk
  | 0 => []
  | k + 1 => [.chain (k + 2) 1]
def hnF : Nat → Nat
  | 0 => 1
  | _ + 1 => 2
end Go.Proofs.YtfkegnhpihoncaaGreat
set_option linter.all false
namespace Go.Proofs.YtfkegnhpihoncaaGreat
open Go.Sp
set_option linter.unusedSimpArgs false
set_option linter.unusedVariables false
set_option maxHeartbeats 4000000
set_option maxRecDepth 100000
end Go.Proofs.YtfkegnhpihoncaaGreat
set_option linter.all false
namespace Go.Proofs.YtfkegnhpihoncaaGreat
open Go.Sp
set_option linter.unusedSimpArgs false
set_option linter.unusedVariables false
set_option maxHeartbeats 4000000
set_option maxRecDepth 100000
def sameR (a b : R) : Bool := decide (a.n = b.n) && (decide (a.es = b.es) && decide (a.ar = b.ar))
theorem sameR_iff (a b : R) : sameR a b = true ↔ a = b := by
  obtain ⟨n, es, ar⟩ := a
  obtain ⟨n', es', ar'⟩ := b
  simp [sameR]
end Go.Proofs.YtfkegnhpihoncaaGreat
set_option linter.all false
namespace Go.Proofs.YtfkegnhpihoncaaGreat
open Go.Sp
set_option linter.unusedSimpArgs false
set_option linter.unusedVariables false
set_option maxHeartbeats 4000000
set_option maxRecDepth 100000
theorem SameInts_ok (a b : List Int) (ha : a.length < 2 ^ 40) (hb : b.length < 2 ^ 40) : ACall Tryz.prog 53 [tints a, tints b] (tbool (decide (a = b))) := by
  refine ACall.of_body Tryz.func53 rfl (by kernel_rfl) ?_
  simp only [entry, Tryz.ntmps53, tints]
  refine zU ?_
  by_cases hlen : a.length = b.length
  case neg =>
    have hI : ¬ ((a.length : Int) = b.length) := by omega
    rw [decide_eq_false (fun e => hlen (by rw [e]))]
    refine zR (zc @iRows_len (zc @hI trivial)) trivial trivial ?_
    simp [Rets, aret, Blk.cells, ty, Tryz.results53, ares, toT1, toT, borrow, borrow0, capCell, toTree0, tbool]
  have hI : ((a.length : Int) = b.length) := by omega
  refine zR (zc @iRows_len (zc @hI trivial)) trivial trivial ?_
  refine AWp.loopS (α:=Nat) 26 (fun i=>[(0,.c (.slice (iRows a) .none)),(1,.c (.slice (iRows b) .none)),(5,.c (.int .i64 (i : Int)))]) (fun i=>[]) (fun i=>i ≤ b.length ∧ a.take i = b.take i) (fun i=>b.length - i) (0) (hk:=Weak.headL 0 26 [0, 1, 5] zW) (h0:=?_) (round:=fun i hI=>?_)
  · exact ⟨Nat.zero_le _, rfl⟩
  · obtain ⟨hi, hI2⟩ := hI
    by_cases hlt : i < b.length
    · have hltI : (i : Int) < b.length := by omega
      have hia : i < a.length := by omega
      have e0 := List.getElem?_eq_getElem hia
      have f0 := List.getElem?_eq_getElem hlt
      have e1 := iRows_get e0
      have f1 := iRows_get f0
      have t1 : a.take (i + 1) = a.take i ++ [a[i]] := List.take_succ_eq_append_getElem hia
      have t2 : b.take (i + 1) = b.take i ++ [b[i]] := List.take_succ_eq_append_getElem hlt
      generalize a[i] = x at *
      generalize b[i] = y at *
      by_cases hxy : x = y
      · subst hxy
        refine zR (zc @hltI (zc @iRows_len (zc @hI (zc @e1 (zc @f1 trivial))))) trivial trivial ?_
        refine ⟨i + 1,Weak.headN 0 26 [0, 1, 5] zW,?_,?_⟩
        · exact ⟨hlt, by rw [t1, t2, hI2]⟩
        · omega
      · rw [decide_eq_false (fun e => hxy (by subst e; rw [e0] at f0; exact Option.some.inj f0))]
        refine zR (zc @hltI (zc @iRows_len (zc @hI (zc @e1 (zc @f1 (zc @hxy trivial)))))) trivial trivial ?_
        simp [Rets, aret, Blk.cells, ty, Tryz.results53, ares, toT1, toT, borrow, borrow0, capCell, toTree0, tbool]
    · have ei : i = b.length := by omega
      have hab : a = b := by
        rw [List.take_of_length_le (by omega), List.take_of_length_le (by omega)] at hI2
        exact hI2
      rw [decide_eq_true hab]
      have hnl : ¬ ((i : Int) < b.length) := by omega
      refine zR (zc @hnl (zc @iRows_len (zc @hI trivial))) trivial trivial ?_
      simp [Rets, aret, Blk.cells, ty, Tryz.results53, ares, toT1, toT, borrow, borrow0, capCell, toTree0, tbool]
theorem SameLists_ok (a b : List (List Int)) (ha : a.length < 2 ^ 40) (hb : b.length < 2 ^ 40) (hal : ∀ l, l ∈ a → l.length < 2 ^ 40) (hbl : ∀ l, l ∈ b → l.length < 2 ^ 40) :
    ACall Tryz.prog 16 [tlists a, tlists b] (tbool (decide (a = b))) := by
  refine ACall.of_body Tryz.func16 rfl (by kernel_rfl) ?_
  simp only [entry, Tryz.ntmps16, tlists]
  refine zU ?_
  by_cases hlen : a.length = b.length
  case neg =>
    have hI : ¬ ((a.length : Int) = b.length) := by omega
    rw [decide_eq_false (fun e => hlen (by rw [e]))]
    refine zR (zc @llRows_len (zc @hI trivial)) trivial trivial ?_
    simp [Rets, aret, Blk.cells, ty, Tryz.results16, ares, toT1, toT, borrow, borrow0, capCell, toTree0, tbool]
  have hI : ((a.length : Int) = b.length) := by omega
  refine zR (zc @llRows_len (zc @hI trivial)) trivial trivial ?_
  refine AWp.loopS (α:=Nat) 27 (fun i=>[(0,.c (.slice (llRows a) .none)),(1,.c (.slice (llRows b) .none)),(5,.c (.int .i64 (i : Int)))]) (fun i=>[]) (fun i=>i ≤ b.length ∧ a.take i = b.take i) (fun i=>b.length - i) (0) (hk:=Weak.headL 0 27 [0, 1, 5] zW) (h0:=?_) (round:=fun i hI=>?_)
  · exact ⟨Nat.zero_le _, rfl⟩
  · obtain ⟨hi, hI2⟩ := hI
    by_cases hlt : i < b.length
    · have hltI : (i : Int) < b.length := by omega
      have hia : i < a.length := by omega
      have e0 := List.getElem?_eq_getElem hia
      have f0 := List.getElem?_eq_getElem hlt
      have e1 := llRows_get e0
      have f1 := llRows_get f0
      have hE := SameInts_ok a[i] b[i] (hal _ (List.getElem_mem hia)) (hbl _ (List.getElem_mem hlt))
      have t1 : a.take (i + 1) = a.take i ++ [a[i]] := List.take_succ_eq_append_getElem hia
      have t2 : b.take (i + 1) = b.take i ++ [b[i]] := List.take_succ_eq_append_getElem hlt
      generalize a[i] = x at *
      generalize b[i] = y at *
      by_cases hxy : x = y
      · rw [decide_eq_true hxy] at hE
        refine zR (zc @hltI (zc @llRows_len (zc @hI (zc @e1 (zc @f1 trivial))))) (zc hE trivial) trivial ?_
        refine ⟨i + 1,Weak.headN 0 27 [0, 1, 5] zW,?_,?_⟩
        · exact ⟨hlt, by rw [t1, t2, hI2, hxy]⟩
        · omega
      · rw [decide_eq_false hxy] at hE
        rw [decide_eq_false (fun e => hxy (by subst e; rw [e0] at f0; exact Option.some.inj f0))]
        refine zR (zc @hltI (zc @llRows_len (zc @hI (zc @e1 (zc @f1 trivial))))) (zc hE trivial) trivial ?_
        simp [Rets, aret, Blk.cells, ty, Tryz.results16, ares, toT1, toT, borrow, borrow0, capCell, toTree0, tbool]
    · have ei : i = b.length := by omega
      have hab : a = b := by
        rw [List.take_of_length_le (by omega), List.take_of_length_le (by omega)] at hI2
        exact hI2
      rw [decide_eq_true hab]
      have hnl : ¬ ((i : Int) < b.length) := by omega
      refine zR (zc @hnl (zc @llRows_len (zc @hI trivial))) trivial trivial ?_
      simp [Rets, aret, Blk.cells, ty, Tryz.results16, ares, toT1, toT, borrow, borrow0, capCell, toTree0, tbool]
theorem SameRR_ok (a b : R) (ha : RSm a) (hb : RSm b) : ACall Tryz.prog 31 [tR a, tR b] (tbool (sameR a b)) := by
  have hS := Same_ok a.g b.g (by have := ha.es; unfold R.g; simp only; omega) (by have := hb.es; unfold R.g; simp only; omega)
  have hL := SameLists_ok a.ar b.ar (by have := ha.ar; omega) (by have := hb.ar; omega) (fun l hl => by have := ha.l l hl; omega) (fun l hl => by have := hb.l l hl; omega)
  have hd : sameR a b = (decide (a.g.n = b.g.n ∧ a.g.es = b.g.es) && decide (a.ar = b.ar)) := by
    unfold sameR R.g
    rw [Bool.eq_iff_iff]; simp [and_assoc]
  rw [hd]
  clear hd ha hb
  generalize decide (a.g.n = b.g.n ∧ a.g.es = b.g.es) = x at *
  obtain ⟨n, es, ar⟩ := a
  obtain ⟨n', es', ar'⟩ := b
  simp only [R.g] at hS hL ⊢
  generalize decide (ar = ar') = y at *
  refine ACall.of_body Tryz.func31 rfl (by kernel_rfl) ?_
  simp only [entry, Tryz.ntmps31, tR]
  refine zU ?_
  cases x with
  | true =>
    rw [Bool.true_and]
    refine zR trivial (zc hS (zc hL trivial)) trivial ?_
    simp [Rets, aret, Blk.cells, ty, Tryz.results31, ares, toT1, toT, borrow, borrow0, capCell, toTree0, tbool]
  | false =>
    rw [Bool.false_and]
    refine zR trivial (zc hS (zc hL trivial)) trivial ?_
    simp [Rets, aret, Blk.cells, ty, Tryz.results31, ares, toT1, toT, borrow, borrow0, capCell, toTree0, tbool]
end Go.Proofs.YtfkegnhpihoncaaGreat
