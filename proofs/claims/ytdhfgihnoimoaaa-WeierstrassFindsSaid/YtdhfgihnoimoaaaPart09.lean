/- A part of the proof. -/
import Derived.Test.YtdhfgihnoimoaaaPart08
import Derived.Test.YtdhfgihnoimoaaaPart06
import Derived.Test.YtdhfgihnoimoaaaLayerC
import Derived.Test.YtdhfgihnoimoaaaPart05
set_option linter.all false
set_option maxHeartbeats 4000000
set_option maxRecDepth 100000
namespace Go.Proofs.Ytdhfgihnoimoaaa
open Go.Sp
def sumR (f : Nat → Int) : Nat → Int
 | 0 => 0
 | n + 1 => sumR f n + f n
theorem sumR_add (f g : Nat → Int) (n : Nat) : sumR (fun i => f i + g i) n = sumR f n + sumR g n := by
 induction n with
 | zero => rfl
 | succ n ih => simp only [sumR, ih]; omega
theorem sumR_zero {f : Nat → Int} {n : Nat} (h : ∀ i, i < n → f i = 0) : sumR f n = 0 := by
 induction n with
 | zero => rfl
 | succ n ih => simp only [sumR, ih fun i hi => h i (by omega), h n (by omega)]; rfl
theorem sumR_congr {f g : Nat → Int} {n : Nat} (h : ∀ i, i < n → f i = g i) : sumR f n = sumR g n := by
 induction n with
 | zero => rfl
 | succ n ih => simp only [sumR, ih fun i hi => h i (by omega), h n (by omega)]
theorem distinct_of {es : List E} (h : es.Pairwise ltE) : distinctE es := h.imp fun {x y} h => by unfold ltE at h; unfold neE; omega
theorem cntL_zero {es : List E} {a b : Int} (h : ∀ x, x ∈ es → ¬ (x.a = a ∧ x.b = b)) : cntL es a b = 0 := by
 induction es with
 | nil => rfl
 | cons x xs ih => simp only [cntL]; rw [if_neg (h x (by simp)), ih fun y hy => h y (by simp [hy])]
theorem cntL_cons {x : E} {xs : List E} (h : distinctE (x :: xs)) (a b : Int) : cntL (x :: xs) a b = (if x.a = a ∧ x.b = b then x.m else 0) + cntL xs a b := by
 simp only [cntL]
 by_cases hx : x.a = a ∧ x.b = b
 ·rw [if_pos hx, if_pos hx, cntL_zero fun y hy => by
   have := (List.pairwise_cons.1 h).1 y hy
   unfold neE at this; omega]
  omega
 ·rw [if_neg hx, if_neg hx]; omega
theorem endsL_cons (x : E) (xs : List E) : endsL (x :: xs) = List.replicate x.m.toNat (x.a, x.b) ++ endsL xs := by simp [endsL]
set_option maxHeartbeats 1000000
theorem sumR_le {f g : Nat → Int} {n : Nat} (h : ∀ i, i < n → f i ≤ g i) : sumR f n ≤ sumR g n := by
 induction n with
 | zero => exact Int.le_refl _
 | succ n ih => simp only [sumR]; have := ih fun i hi => h i (by omega); have := h n (by omega); omega
theorem sumR_nonneg {f : Nat → Int} {n : Nat} (h : ∀ i, i < n → 0 ≤ f i) : 0 ≤ sumR f n := by
 have := sumR_le (f := fun _ => 0) (g := f) h
 rwa [sumR_zero fun _ _ => rfl] at this
theorem sumR_sub (f g : Nat → Int) (n : Nat) : sumR (fun i => f i - g i) n = sumR f n - sumR g n := by
 induction n with
 | zero => rfl
 | succ n ih => simp only [sumR, ih]; omega
theorem sumR_mul (c : Int) (f : Nat → Int) (n : Nat) : sumR (fun i => c * f i) n = c * sumR f n := by
 induction n with
 | zero => simp [sumR]
 | succ n ih => simp only [sumR, ih, Int.mul_add]
theorem sumR_const (c : Int) (n : Nat) : sumR (fun _ => c) n = n * c := by
 induction n with
 | zero => simp [sumR]
 | succ n ih => simp only [sumR, ih]; rw [Int.natCast_add, Int.add_mul]; simp
theorem sumR_comm (f : Nat → Nat → Int) (n m : Nat) : sumR (fun i => sumR (f i) m) n = sumR (fun j => sumR (fun i => f i j) n) m := by
 induction n with
 | zero => simp only [sumR]; rw [sumR_zero fun _ _ => rfl]
 | succ n ih => simp only [sumR, ih]; rw [← sumR_add]
theorem sumR_one_le {f : Nat → Int} : ∀ {n : Nat}, (∀ i, i < n → 0 ≤ f i) → ∀ {j : Nat}, j < n → f j ≤ sumR f n
 | 0, _, j, hj => by omega
 | n + 1, h, j, hj => by
  simp only [sumR]
  by_cases e : j = n
  ·subst e; have := sumR_nonneg (f := f) (n := j) fun i hi => h i (by omega); omega
  ·have := sumR_one_le (n := n) (fun i hi => h i (by omega)) (j := j) (by omega)
   have := h n (by omega); omega
theorem sumR_delta (c : Int) (j : Nat) : ∀ {n : Nat}, j < n → sumR (fun i => if i = j then c else 0) n = c
 | 0, h => by omega
 | n + 1, h => by
  simp only [sumR]
  by_cases e : j = n
  ·subst e; rw [if_pos rfl, sumR_zero fun i hi => if_neg (by omega)]; omega
  ·rw [if_neg (by omega), sumR_delta c j (n := n) (by omega)]; omega
structure Mult (n : Nat) (M : Nat → Nat → Int) : Prop where
 sym : ∀ u v, M u v = M v u
 pos : ∀ u v, 0 ≤ M u v
 dia : ∀ v, M v v = 0
 con : ∀ S : Nat → Bool, (∃ v, v < n ∧ S v = true) → (∃ v, v < n ∧ S v = false) → ∃ u v, u < n ∧ v < n ∧ S u = true ∧ S v = false ∧ 1 ≤ M u v
def lap (n : Nat) (M : Nat → Nat → Int) (s : Nat → Int) (v : Nat) : Int := sumR (fun u => M v u * (s v - s u)) n
def win (n : Nat) (M : Nat → Nat → Int) (D : Nat → Int) : Prop := ∃ s : Nat → Int, ∀ v, v < n → 0 ≤ D v - lap n M s v
def eqvD (n : Nat) (M : Nat → Nat → Int) (D E : Nat → Int) : Prop := ∃ s : Nat → Int, ∀ v, v < n → E v = D v - lap n M s v
section
variable {n : Nat} {M : Nat → Nat → Int}
theorem lap_add (s t : Nat → Int) (v : Nat) : lap n M (fun u => s u + t u) v = lap n M s v + lap n M t v := by
 unfold lap; rw [← sumR_add]
 exact sumR_congr fun u _ => by rw [← Int.mul_add]; congr 1; dsimp only; omega
theorem lap_neg (s : Nat → Int) (v : Nat) : lap n M (fun u => - s u) v = - lap n M s v := by
 unfold lap
 have : sumR (fun u => M v u * (-s v - -s u)) n = sumR (fun u => (-1) * (M v u * (s v - s u))) n := sumR_congr fun u _ => by
  rw [show -s v - -s u = -(s v - s u) by omega, Int.mul_neg]; omega
 rw [this, sumR_mul]; omega
theorem lap_sum (h : Mult n M) (s : Nat → Int) : sumR (lap n M s) n = 0 := by
 have e1 : sumR (lap n M s) n = sumR (fun v => sumR (fun u => M v u * s v) n) n - sumR (fun v => sumR (fun u => M v u * s u) n) n := by
  rw [← sumR_sub]
  exact sumR_congr fun v _ => by unfold lap; rw [← sumR_sub]; exact sumR_congr fun u _ => by rw [Int.mul_sub]
 have e2 : sumR (fun v => sumR (fun u => M v u * s u) n) n = sumR (fun v => sumR (fun u => M v u * s v) n) n := by
  rw [sumR_comm]
  exact sumR_congr fun v _ => sumR_congr fun u _ => by rw [h.sym]
 omega
theorem eqvD.refl (D : Nat → Int) : eqvD n M D D := ⟨fun _ => 0, fun v _ => by unfold lap; rw [sumR_zero fun u _ => by simp]; omega⟩
theorem eqvD.symm {D E : Nat → Int} (h : eqvD n M D E) : eqvD n M E D := by
 obtain ⟨s, hs⟩ := h
 exact ⟨fun u => - s u, fun v hv => by rw [lap_neg, hs v hv]; omega⟩
theorem eqvD.trans {D E F : Nat → Int} (h : eqvD n M D E) (h' : eqvD n M E F) : eqvD n M D F := by
 obtain ⟨s, hs⟩ := h; obtain ⟨t, ht⟩ := h'
 exact ⟨fun u => s u + t u, fun v hv => by rw [lap_add, ht v hv, hs v hv]; omega⟩
theorem eqvD.deg (hM : Mult n M) {D E : Nat → Int} (h : eqvD n M D E) : sumR E n = sumR D n := by
 obtain ⟨s, hs⟩ := h
 rw [sumR_congr hs, sumR_sub, lap_sum hM]; omega
theorem eqvD.plus {D E : Nat → Int} (h : eqvD n M D E) (F : Nat → Int) : eqvD n M (fun v => D v + F v) (fun v => E v + F v) := by
 obtain ⟨s, hs⟩ := h
 exact ⟨s, fun v hv => by simp only; rw [hs v hv]; omega⟩
theorem eqvD.neg {D E : Nat → Int} (h : eqvD n M D E) : eqvD n M (fun v => - D v) (fun v => - E v) := by
 obtain ⟨s, hs⟩ := h
 exact ⟨fun u => - s u, fun v hv => by simp only; rw [lap_neg, hs v hv]; omega⟩
theorem eqvD.of_eq {D E : Nat → Int} (h : ∀ v, v < n → E v = D v) : eqvD n M D E := by
 obtain ⟨s, hs⟩ := eqvD.refl (n := n) (M := M) D
 exact ⟨s, fun v hv => by rw [h v hv]; exact hs v hv⟩
theorem win_iff {D : Nat → Int} : win n M D ↔ ∃ E, eqvD n M D E ∧ ∀ v, v < n → 0 ≤ E v := by
 constructor
 ·rintro ⟨s, hs⟩; exact ⟨fun v => D v - lap n M s v, ⟨s, fun _ _ => rfl⟩, hs⟩
 ·rintro ⟨E, ⟨s, hs⟩, hE⟩; exact ⟨s, fun v hv => by rw [← hs v hv]; exact hE v hv⟩
theorem win.eqv {D E : Nat → Int} (h : win n M D) (he : eqvD n M D E) : win n M E := by
 rw [win_iff] at h ⊢
 obtain ⟨F, h1, h2⟩ := h
 exact ⟨F, he.symm.trans h1, h2⟩
theorem win.mono {D E : Nat → Int} (h : win n M D) (hle : ∀ v, v < n → D v ≤ E v) : win n M E := by
 obtain ⟨s, hs⟩ := h
 exact ⟨s, fun v hv => by have := hs v hv; have := hle v hv; omega⟩
theorem win.deg (hM : Mult n M) {D : Nat → Int} (h : win n M D) : 0 ≤ sumR D n := by
 rw [win_iff] at h
 obtain ⟨E, h1, h2⟩ := h
 rw [← h1.deg hM]; exact sumR_nonneg h2
def twoE (n : Nat) (M : Nat → Nat → Int) : Int := sumR (fun v => sumR (M v) n) n
def ordD (n : Nat) (M : Nat → Nat → Int) (r : Nat → Nat) (v : Nat) : Int := sumR (fun u => if r u < r v then M v u else 0) n - 1
theorem exists_max (s : Nat → Int) : ∀ {n : Nat}, 0 < n → ∃ v, v < n ∧ ∀ u, u < n → s u ≤ s v
 | 0, h => by omega
 | 1, _ => ⟨0, by omega, fun u hu => by rw [show u = 0 by omega]; exact Int.le_refl _⟩
 | n + 2, _ => by
  obtain ⟨v, h1, h2⟩ := exists_max s (n := n + 1) (by omega)
  by_cases h : s v ≤ s (n + 1)
  ·exact ⟨n + 1, by omega, fun u hu => by
    by_cases e : u = n + 1
    ·rw [e]; exact Int.le_refl _
    ·have := h2 u (by omega); omega⟩
  ·exact ⟨v, by omega, fun u hu => by
    by_cases e : u = n + 1
    ·rw [e]; omega
    ·exact h2 u (by omega)⟩
theorem least_by (r : Nat → Nat) {P : Nat → Prop} {v : Nat} (h : P v) : ∃ u, P u ∧ ∀ w, P w → r u ≤ r w := by
 have key : ∀ k, ∀ v, P v → r v ≤ k → ∃ u, P u ∧ ∀ w, P w → r u ≤ r w := by
  intro k
  induction k with
  | zero => intro v hv hk; exact ⟨v, hv, fun w _ => by omega⟩
  | succ k ih =>
   intro v hv hk
   by_cases hx : ∃ w, P w ∧ r w < r v
   ·obtain ⟨w, h1, h2⟩ := hx; exact ih w h1 (by omega)
   ·exact ⟨v, hv, fun w hw => Nat.le_of_not_lt fun hlt => hx ⟨w, hw, hlt⟩⟩
 exact key _ v h (Nat.le_refl _)
theorem ordD_lost (hM : Mult n M) (h0 : 0 < n) (r : Nat → Nat) : ¬ win n M (ordD n M r) := by
 rintro ⟨s, hs⟩
 obtain ⟨v0, h1, h2⟩ := exists_max s h0
 obtain ⟨v, ⟨hv, hmax⟩, hmin⟩ := least_by r (P := fun v => v < n ∧ ∀ u, u < n → s u ≤ s v) ⟨h1, h2⟩
 have := hs v hv
 have hle : sumR (fun u => if r u < r v then M v u else 0) n ≤ lap n M s v := sumR_le fun u hu => by
  have hp := hM.pos v u
  have hsu := hmax u hu
  split
  ·rename_i hr
   have hne : s u < s v := by
    refine Classical.byContradiction fun hx => ?_
    have := hmin u ⟨hu, fun w hw => by have := hmax w hw; omega⟩
    omega
   have := Int.mul_le_mul_of_nonneg_left (show 1 ≤ s v - s u by omega) hp
   omega
  ·exact Int.mul_nonneg hp (by omega)
 unfold ordD at this
 omega
theorem ordD_deg (hM : Mult n M) {r : Nat → Nat} (hr : ∀ u v, u < n → v < n → r u = r v → u = v) : 2 * sumR (ordD n M r) n = twoE n M - 2 * n := by
 have e1 : sumR (ordD n M r) n = sumR (fun v => sumR (fun u => if r u < r v then M v u else 0) n) n - n := by
  unfold ordD; rw [sumR_sub, sumR_const]; omega
 have e2 : sumR (fun v => sumR (fun u => if r u < r v then M v u else 0) n) n = sumR (fun v => sumR (fun u => if r v < r u then M v u else 0) n) n := by
  rw [sumR_comm]
  exact sumR_congr fun v _ => sumR_congr fun u _ => by rw [hM.sym]
 have e3 : twoE n M = sumR (fun v => sumR (fun u => if r u < r v then M v u else 0) n) n + sumR (fun v => sumR (fun u => if r v < r u then M v u else 0) n) n := by
  unfold twoE
  rw [← sumR_add]
  refine sumR_congr fun v hv => ?_
  rw [← sumR_add]
  refine sumR_congr fun u hu => ?_
  rcases Nat.lt_trichotomy (r u) (r v) with h | h | h
  ·rw [if_pos h, if_neg (by omega)]; omega
  ·have := hr u v hu hv h; subst this; rw [if_neg (by omega), hM.dia]; rfl
  ·rw [if_neg (by omega), if_pos h]; omega
 omega
end
end Go.Proofs.Ytdhfgihnoimoaaa
