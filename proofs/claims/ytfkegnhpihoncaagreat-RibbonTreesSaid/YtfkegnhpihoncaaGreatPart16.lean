/- A part of the proof. -/
import Derived.Test.YtfkegnhpihoncaaGreatPart15
import Derived.Test.YtfkegnhpihoncaaGreatPart11
import Derived.Test.YtfkegnhpihoncaaGreatLayerC
set_option linter.all false
set_option maxHeartbeats 4000000
set_option maxRecDepth 100000
namespace Go.Proofs.YtfkegnhpihoncaaGreat
open Go.Sp
def subE (n : Int) : Option Int → List Int → Int
 | _, [] => 0
 | p, v :: l => if ¬ (0 ≤ v ∧ v < n) then 2 else if (∃ u, p = some u ∧ v ≤ u) then 9 else subE n (some v) l
def sumR (f : Nat → Int) : Nat → Int
 | 0 => 0
 | n + 1 => sumR f n + f n
theorem sumR_add (f g : Nat → Int) (n : Nat) : sumR (fun i => f i + g i) n = sumR f n + sumR g n := by
 induction n with
 | zero => rfl
 | succ n ih => simp only [sumR, ih]; omega
theorem sumR_zero {f : Nat → Int} {n : Nat} (h : ∀ i, i < n → f i = 0) : sumR f n = 0 := by
 induction n with
 | zero => rfl
 | succ n ih => simp only [sumR, ih fun i hi => h i (by omega), h n (by omega)]; rfl
theorem sumR_congr {f g : Nat → Int} {n : Nat} (h : ∀ i, i < n → f i = g i) : sumR f n = sumR g n := by
 induction n with
 | zero => rfl
 | succ n ih => simp only [sumR, ih fun i hi => h i (by omega), h n (by omega)]
theorem sumR_bound {f : Nat → Int} {n : Nat} {k : Int} (h : ∀ i, i < n → 0 ≤ f i ∧ f i ≤ k) : 0 ≤ sumR f n ∧ sumR f n ≤ k * n := by
 induction n with
 | zero => simp [sumR]
 | succ n ih =>
  have h1 := ih fun i hi => h i (by omega)
  have h2 := h n (by omega)
  have h3 : k * ((n + 1 : Nat) : Int) = k * (n : Int) + k := by rw [Int.natCast_add, Int.mul_add]; simp
  simp only [sumR]; omega
theorem sumR_one {c m : Int} : ∀ {n : Nat}, 0 ≤ c → c < n → sumR (fun i => if (i : Int) = c then m else 0) n = m := by
 intro n
 induction n with
 | zero => intro h1 h2; omega
 | succ n ih =>
  intro h1 h2
  simp only [sumR]
  by_cases e : (n : Int) = c
  ·rw [if_pos e, sumR_zero (fun i hi => if_neg (by omega))]; omega
  ·rw [if_neg e, ih h1 (by omega)]; omega
theorem distinct_of {es : List E} (h : es.Pairwise ltE) : distinctE es := h.imp fun {x y} h => by unfold ltE at h; unfold neE; omega
theorem cntL_zero {es : List E} {a b : Int} (h : ∀ x, x ∈ es → ¬ (x.a = a ∧ x.b = b)) : cntL es a b = 0 := by
 induction es with
 | nil => rfl
 | cons x xs ih => simp only [cntL]; rw [if_neg (h x (by simp)), ih fun y hy => h y (by simp [hy])]
theorem cntL_cons {x : E} {xs : List E} (h : distinctE (x :: xs)) (a b : Int) : cntL (x :: xs) a b = (if x.a = a ∧ x.b = b then x.m else 0) + cntL xs a b := by
 simp only [cntL]
 by_cases hx : x.a = a ∧ x.b = b
 ·rw [if_pos hx, if_pos hx, cntL_zero fun y hy => by
   have := (List.pairwise_cons.1 h).1 y hy
   unfold neE at this; omega]
  omega
 ·rw [if_neg hx, if_neg hx]; omega
theorem endsL_cons (x : E) (xs : List E) : endsL (x :: xs) = List.replicate x.m.toNat (x.a, x.b) ++ endsL xs := by simp [endsL]
theorem degL_rep (v : Int) (p : Int × Int) (k : Nat) : degL v (List.replicate k p) = k * (b2i (p.1 = v) + b2i (p.2 = v)) := by
 induction k with
 | zero => simp [degL]
 | succ k ih => rw [List.replicate_succ]; simp only [degL, ih]; rw [Int.natCast_add, Int.add_mul]; omega
theorem degL_val {es : List E} (hd : distinctE es) (hm : ∀ x, x ∈ es → 1 ≤ x.m) (v : Int) : degL v (endsL es) = valL v es + 2 * cntL es v v := by
 induction es with
 | nil => rfl
 | cons x xs ih =>
  have h1 := hm x (by simp)
  have h2 := ih (List.pairwise_cons.1 hd).2 fun y hy => hm y (by simp [hy])
  rw [endsL_cons, degL_append, degL_rep, h2, cntL_cons hd, valL]
  have e : ((x.m.toNat : Nat) : Int) = x.m := by omega
  rw [e]
  simp only [b2i]
  by_cases ha : x.a = v <;> by_cases hb : x.b = v
  ·simp [ha, hb]; omega
  ·simp [ha, hb]; rw [if_neg (fun h => hb h.symm)]; omega
  ·simp [ha, hb]; omega
  ·simp [ha, hb]
theorem cnt_sum {n : Nat} {es : List E} (hd : distinctE es) (hr : ∀ x, x ∈ es → 0 ≤ x.a ∧ x.a ≤ x.b ∧ x.b < n) (v : Int) :
  sumR (fun u => cntL es (min v u) (max v u)) n = valL v es + cntL es v v := by
 induction es with
 | nil => simp only [cntL, valL]; rw [sumR_zero fun _ _ => rfl]; rfl
 | cons x xs ih =>
  have h1 := hr x (by simp)
  have h2 := ih (List.pairwise_cons.1 hd).2 fun y hy => hr y (by simp [hy])
  have h3 : sumR (fun u => cntL (x :: xs) (min v u) (max v u)) n = sumR (fun u => if x.a = min v (u : Int) ∧ x.b = max v (u : Int) then x.m else 0) n + sumR (fun u => cntL xs (min v u) (max v u)) n := by
   rw [← sumR_add]; exact sumR_congr fun i _ => cntL_cons hd _ _
  rw [h3, h2, cntL_cons hd, valL]
  by_cases ha : x.a = v
  ·have h4 : sumR (fun u => if x.a = min v (u : Int) ∧ x.b = max v (u : Int) then x.m else 0) n = x.m := by
    rw [sumR_congr (g := fun u => if (u : Int) = x.b then x.m else 0), sumR_one (by omega) (by omega)]
    intro i _
    by_cases hi : (i : Int) = x.b
    ·rw [if_pos hi, if_pos (by omega)]
    ·rw [if_neg hi, if_neg (by omega)]
   rw [h4]
   by_cases hb : x.b = v
   ·rw [if_neg (by omega), if_pos (by omega)]; omega
   ·rw [if_pos (by omega), if_neg (by omega)]; omega
  ·by_cases hb : x.b = v
   ·have h4 : sumR (fun u => if x.a = min v (u : Int) ∧ x.b = max v (u : Int) then x.m else 0) n = x.m := by
     rw [sumR_congr (g := fun u => if (u : Int) = x.a then x.m else 0), sumR_one (by omega) (by omega)]
     intro i _
     by_cases hi : (i : Int) = x.a
     ·rw [if_pos hi, if_pos (by omega)]
     ·rw [if_neg hi, if_neg (by omega)]
    rw [h4, if_pos (by omega), if_neg (by omega)]; omega
   ·rw [sumR_zero fun i _ => if_neg (by omega), if_neg (by omega), if_neg (by omega)]; omega
theorem deg_sum {n : Nat} {l : List (Int × Int)} (hr : ∀ p, p ∈ l → (0 ≤ p.1 ∧ p.1 < n) ∧ (0 ≤ p.2 ∧ p.2 < n)) : sumR (fun v => degL v l) n = 2 * l.length := by
 induction l with
 | nil => simp only [degL]; rw [sumR_zero fun _ _ => rfl]; rfl
 | cons p l ih =>
  have h1 := hr p (by simp)
  have h2 := ih fun q hq => hr q (by simp [hq])
  have h3 : sumR (fun v => degL v (p :: l)) n = sumR (fun v => if (v : Int) = p.1 then 1 else 0) n + sumR (fun v => if (v : Int) = p.2 then 1 else 0) n + sumR (fun v => degL v l) n := by
   rw [← sumR_add, ← sumR_add]
   refine sumR_congr fun i _ => ?_
   simp only [degL, b2i]
   congr 1
   congr 1
   ·by_cases e : p.1 = (i : Int)
    ·rw [if_pos e, if_pos e.symm]
    ·rw [if_neg e, if_neg fun h => e h.symm]
   ·by_cases e : p.2 = (i : Int)
    ·rw [if_pos e, if_pos e.symm]
    ·rw [if_neg e, if_neg fun h => e h.symm]
  rw [h3, h2, sumR_one h1.1.1 h1.1.2, sumR_one h1.2.1 h1.2.2, List.length_cons]
  omega
theorem handshake {g : G} {n : Nat} (hc : checkG g = 0) (hn : g.n = n) :
  sumR (fun v => valL v g.es + 2 * cntL g.es v v) n = 2 * (endsL g.es).length ∧
  (∀ v : Int, degL v (endsL g.es) = valL v g.es + 2 * cntL g.es v v) ∧
  (∀ v : Int, sumR (fun u => cntL g.es (min v u) (max v u)) n = valL v g.es + cntL g.es v v) := by
 obtain ⟨h1, h2, h3⟩ := checkG_zero.1 hc
 have hd := distinct_of h3
 have hv : ∀ v : Int, degL v (endsL g.es) = valL v g.es + 2 * cntL g.es v v := degL_val hd fun x hx => by have := h2 x hx; unfold okE at this; omega
 refine ⟨?_, hv, fun v => cnt_sum hd (fun x hx => by have := h2 x hx; unfold okE at this; omega) v⟩
 rw [← deg_sum (n := n) (l := endsL g.es)]
 ·exact sumR_congr fun i _ => (hv _).symm
 ·intro p hp
  obtain ⟨e, he, hx⟩ := List.mem_flatMap.1 hp
  obtain rfl := List.eq_of_mem_replicate hx
  have := h2 e he
  unfold okE at this
  simp only; omega
end Go.Proofs.YtfkegnhpihoncaaGreat
