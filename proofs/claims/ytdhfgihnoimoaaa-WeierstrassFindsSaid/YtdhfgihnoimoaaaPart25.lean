/- A part of the proof. -/
import Derived.Test.YtdhfgihnoimoaaaPart24
import Derived.Test.YtdhfgihnoimoaaaPart10
import Derived.Test.YtdhfgihnoimoaaaPart19
import Derived.Test.YtdhfgihnoimoaaaLayerC
set_option linter.all false
set_option maxHeartbeats 4000000
set_option maxRecDepth 100000
namespace Go.Proofs.Ytdhfgihnoimoaaa
open Go.Sp
set_option maxHeartbeats 1000000
def mulE : List E → Nat → Nat → Int
 | [], _, _ => 0
 | e :: es, u, v => (if e.a ≠ e.b ∧ ((e.a = u ∧ e.b = v) ∨ (e.b = u ∧ e.a = v)) then e.m else 0) + mulE es u v
def sizeE : List E → Int
 | [] => 0
 | e :: es => (if e.a ≠ e.b then e.m else 0) + sizeE es
structure EsOk (n : Nat) (es : List E) : Prop where
 rng : ∀ e, e ∈ es → (0 ≤ e.a ∧ e.a < n) ∧ (0 ≤ e.b ∧ e.b < n) ∧ 0 ≤ e.m ∧ e.m ≤ 50
theorem EsOk.tail {n : Nat} {e : E} {es : List E} (h : EsOk n (e :: es)) : EsOk n es := ⟨fun x hx => h.rng x (by simp [hx])⟩
theorem mulE_sym : ∀ (es : List E) (u v : Nat), mulE es u v = mulE es v u
 | [], _, _ => rfl
 | e :: es, u, v => by
  unfold mulE
  rw [mulE_sym es u v]
  congr 1
  by_cases h : e.a ≠ e.b ∧ ((e.a = u ∧ e.b = v) ∨ (e.b = u ∧ e.a = v))
  ·rw [if_pos h, if_pos ⟨h.1, h.2.elim (fun q => .inr ⟨q.2, q.1⟩) (fun q => .inl ⟨q.2, q.1⟩)⟩]
  ·rw [if_neg h, if_neg (fun q => h ⟨q.1, q.2.elim (fun q => .inr ⟨q.2, q.1⟩) (fun q => .inl ⟨q.2, q.1⟩)⟩)]
theorem mulE_dia : ∀ (es : List E) (v : Nat), mulE es v v = 0
 | [], _ => rfl
 | e :: es, v => by
  unfold mulE
  rw [mulE_dia es v, if_neg (fun q => by rcases q with ⟨q1, q2 | q2⟩ <;> exact q1 (by omega))]; rfl
theorem mulE_pos {n : Nat} : ∀ {es : List E}, EsOk n es → ∀ (u v : Nat), 0 ≤ mulE es u v
 | [], _, _, _ => Int.le_refl _
 | e :: es, h, u, v => by
  have := mulE_pos h.tail u v
  have := h.rng e (by simp)
  unfold mulE
  split <;> omega
theorem mulE_ge {n : Nat} : ∀ {es : List E}, EsOk n es → ∀ {e : E}, e ∈ es → e.a ≠ e.b → ∀ {u v : Nat}, (e.a = u ∧ e.b = v) ∨ (e.b = u ∧ e.a = v) → e.m ≤ mulE es u v
 | [], _, e, he, _, _, _, _ => by cases he
 | x :: es, h, e, he, hne, u, v, huv => by
  have h1 := mulE_pos h.tail u v
  have h2 := h.rng x (by simp)
  unfold mulE
  rcases List.mem_cons.1 he with rfl | he
  ·rw [if_pos ⟨hne, huv⟩]; omega
  ·have := mulE_ge h.tail he hne huv
   split <;> omega
theorem joinL_eq (p : Int → Bool) : ∀ l : List (Int × Int), ∀ a : Int, l.foldl (fun a x => if p x.1 = true then a + x.2 else a) a = a + joinL p l
 | [], a => by simp [joinL]
 | x :: l, a => by
  unfold joinL
  rw [List.foldl_cons, List.foldl_cons, joinL_eq p l, joinL_eq p l]
  split <;> omega
theorem joinL_cons (p : Int → Bool) (x : Int × Int) (l : List (Int × Int)) : joinL p (x :: l) = (if p x.1 = true then x.2 else 0) + joinL p l := by
 conv => lhs; unfold joinL
 rw [List.foldl_cons, joinL_eq]
 split <;> omega
theorem joinL_sum {n : Nat} (p : Int → Bool) (u : Nat) : ∀ {es : List E}, EsOk n es → joinL p (lnkL es u) = sumR (fun v => if p (v : Int) = true then mulE es u v else 0) n
 | [], _ => by rw [sumR_zero fun v _ => by simp [mulE]]; rfl
 | e :: es, h => by
  have ih := joinL_sum p u h.tail
  have hr := h.rng e (by simp)
  have e1 : lnkL (e :: es) u = (lnkE u e).toList ++ lnkL es u := by
   unfold lnkL; rw [List.filterMap_cons]; cases lnkE u e <;> rfl
  have e2 : sumR (fun v => if p (v : Int) = true then mulE (e :: es) u v else 0) n = sumR (fun v => if p (v : Int) = true then (if e.a ≠ e.b ∧ ((e.a = u ∧ e.b = v) ∨ (e.b = u ∧ e.a = v)) then e.m else 0) else 0) n + sumR (fun v => if p (v : Int) = true then mulE es u v else 0) n := by
   rw [← sumR_add]
   refine sumR_congr fun v _ => ?_
   split
   ·rfl
   ·rfl
  rw [e1, e2, ← ih]
  unfold lnkE
  by_cases hc : e.a ≠ e.b ∧ (e.a = u ∨ e.b = u)
  ·rw [if_pos hc, Option.toList_some, List.cons_append, List.nil_append, joinL_cons]
   congr 1
   simp only
   obtain ⟨w, hw⟩ : ∃ w : Nat, e.a + e.b - u = (w : Int) := Int.eq_ofNat_of_zero_le (by rcases hc.2 with q | q <;> omega)
   have hwn : w < n := by rcases hc.2 with q | q <;> omega
   rw [hw]
   have : sumR (fun v => if p (v : Int) = true then (if e.a ≠ e.b ∧ ((e.a = u ∧ e.b = v) ∨ (e.b = u ∧ e.a = v)) then e.m else 0) else 0) n = sumR (fun v => if v = w then (if p (w : Int) = true then e.m else 0) else 0) n := sumR_congr fun v _ => by
    by_cases hv : v = w
    ·subst hv
     rw [if_pos rfl]
     have : e.a ≠ e.b ∧ ((e.a = u ∧ e.b = (v : Int)) ∨ (e.b = u ∧ e.a = (v : Int))) := ⟨hc.1, by rcases hc.2 with q | q; exact .inl ⟨q, by omega⟩; exact .inr ⟨q, by omega⟩⟩
     rw [if_pos this]
    ·rw [if_neg hv]
     have : ¬ (e.a ≠ e.b ∧ ((e.a = u ∧ e.b = (v : Int)) ∨ (e.b = u ∧ e.a = (v : Int)))) := fun q => hv (by rcases q.2 with q | q <;> omega)
     rw [if_neg this]; simp
   rw [this, sumR_delta _ w hwn]
  ·rw [if_neg hc, Option.toList_none, List.nil_append, sumR_zero fun v _ => ?_]
   ·omega
   ·have hC : ¬ (e.a ≠ e.b ∧ ((e.a = u ∧ e.b = (v : Int)) ∨ (e.b = u ∧ e.a = (v : Int)))) := fun q => hc ⟨q.1, q.2.elim (fun q => .inl q.1) (fun q => .inr q.1)⟩
    rw [if_neg hC]; split <;> rfl
theorem mulE_val {n : Nat} : ∀ {es : List E}, EsOk n es → ∀ (u : Nat), sumR (mulE es u) n ≤ sizeE es
 | [], _, u => by rw [sumR_zero (f := mulE [] u) fun v _ => rfl]; exact Int.le_refl _
 | e :: es, h, u => by
  have ih := mulE_val h.tail u
  have hr := h.rng e (by simp)
  have e2 : sumR (mulE (e :: es) u) n = sumR (fun v => if e.a ≠ e.b ∧ ((e.a = u ∧ e.b = v) ∨ (e.b = u ∧ e.a = v)) then e.m else 0) n + sumR (mulE es u) n := by
   rw [← sumR_add]; exact sumR_congr fun v _ => rfl
  have e3 : sumR (fun v => if e.a ≠ e.b ∧ ((e.a = u ∧ e.b = v) ∨ (e.b = u ∧ e.a = v)) then e.m else 0) n ≤ if e.a ≠ e.b then e.m else 0 := by
   by_cases hne : e.a ≠ e.b
   ·rw [if_pos hne]
    obtain ⟨w, hw⟩ : ∃ w : Nat, (if e.a = u then e.b else e.a) = (w : Int) := Int.eq_ofNat_of_zero_le (by split <;> omega)
    have hwn : w < n := by split at hw <;> omega
    refine Int.le_trans (sumR_le (g := fun v => if v = w then e.m else 0) fun v _ => ?_) (Int.le_of_eq (sumR_delta e.m w hwn))
    by_cases hv : e.a ≠ e.b ∧ ((e.a = u ∧ e.b = (v : Int)) ∨ (e.b = u ∧ e.a = (v : Int)))
    ·rw [if_pos hv]
     have : v = w := by split at hw <;> (rcases hv.2 with q | q <;> omega)
     rw [if_pos this]; exact Int.le_refl _
    ·rw [if_neg hv]; split <;> omega
   ·rw [if_neg hne, sumR_zero fun v _ => if_neg fun q => hne q.1]; exact Int.le_refl _
  have hs : sizeE (e :: es) = (if e.a ≠ e.b then e.m else 0) + sizeE es := rfl
  rw [hs]
  omega
theorem sizeE_two {n : Nat} : ∀ {es : List E}, EsOk n es → twoE n (mulE es) = 2 * sizeE es
 | [], _ => by unfold twoE; rw [sumR_zero (f := fun v => sumR (mulE [] v) n) fun v _ => sumR_zero (f := mulE [] v) fun u _ => rfl]; rfl
 | e :: es, h => by
  have ih := sizeE_two h.tail
  have hr := h.rng e (by simp)
  have e2 : twoE n (mulE (e :: es)) = sumR (fun u => sumR (fun v => if e.a ≠ e.b ∧ ((e.a = u ∧ e.b = v) ∨ (e.b = u ∧ e.a = v)) then e.m else 0) n) n + twoE n (mulE es) := by
   unfold twoE
   rw [← sumR_add]
   refine sumR_congr fun u _ => ?_
   rw [← sumR_add]; exact sumR_congr fun v _ => rfl
  have hs : sizeE (e :: es) = (if e.a ≠ e.b then e.m else 0) + sizeE es := rfl
  rw [e2, ih, hs]
  by_cases hne : e.a ≠ e.b
  ·rw [if_pos hne]
   obtain ⟨a, ha⟩ := Int.eq_ofNat_of_zero_le hr.1.1
   obtain ⟨b, hb⟩ := Int.eq_ofNat_of_zero_le hr.2.1.1
   have hab : a ≠ b := by rintro rfl; exact hne (by omega)
   have e4 : sumR (fun u => sumR (fun v => if e.a ≠ e.b ∧ ((e.a = u ∧ e.b = v) ∨ (e.b = u ∧ e.a = v)) then e.m else 0) n) n = sumR (fun u => (if u = a then e.m else 0) + if u = b then e.m else 0) n := sumR_congr fun u _ => by
    by_cases h1 : u = a
    ·have : sumR (fun v => if e.a ≠ e.b ∧ ((e.a = u ∧ e.b = v) ∨ (e.b = u ∧ e.a = v)) then e.m else 0) n = sumR (fun v => if v = b then e.m else 0) n := sumR_congr fun v _ => by
      by_cases hv : v = b
      ·rw [if_pos hv, if_pos ⟨hne, .inl ⟨by omega, by omega⟩⟩]
      ·rw [if_neg hv, if_neg (fun q => by rcases q.2 with q | q <;> omega)]
     rw [this, sumR_delta _ b (by omega), if_pos h1, if_neg (by omega)]; omega
    ·by_cases h2 : u = b
     ·have : sumR (fun v => if e.a ≠ e.b ∧ ((e.a = u ∧ e.b = v) ∨ (e.b = u ∧ e.a = v)) then e.m else 0) n = sumR (fun v => if v = a then e.m else 0) n := sumR_congr fun v _ => by
       by_cases hv : v = a
       ·rw [if_pos hv, if_pos ⟨hne, .inr ⟨by omega, by omega⟩⟩]
       ·rw [if_neg hv, if_neg (fun q => by rcases q.2 with q | q <;> omega)]
      rw [this, sumR_delta _ a (by omega), if_neg h1, if_pos h2]; omega
     ·rw [sumR_zero fun v _ => if_neg (fun q => by rcases q.2 with q | q <;> omega), if_neg h1, if_neg h2]; rfl
   rw [e4, sumR_add, sumR_delta _ a (by omega), sumR_delta _ b (by omega)]; omega
  ·rw [if_neg hne, sumR_zero fun u _ => sumR_zero fun v _ => if_neg fun q => hne q.1]; omega
theorem mult_of {g : G} {n : Nat} (hc : checkG g = 0) (hn : g.n = n) (hcon : connB g = true) : EsOk n g.es ∧ Mult n (mulE g.es) := by
 have h := checkG_zero.1 hc
 have hE : EsOk n g.es := ⟨fun e he => by have := h.2.1 e he; unfold okE at this; omega⟩
 refine ⟨hE, mulE_sym _, mulE_pos hE, mulE_dia _, fun S hS hS' => ?_⟩
 obtain ⟨a, ha, hSa⟩ := hS
 obtain ⟨b, hb, hSb⟩ := hS'
 rw [conn_parts hc hn, decide_eq_true_eq] at hcon
 have hab := ncls_one (conn_eqv n _) hcon ha hb
 refine Classical.byContradiction fun hx => ?_
 have key : ∀ {x y : Nat}, Conn (endsL g.es) x y → S x = true → S y = true := fun {x y} hxy => by
  induction hxy with
  | refl => exact id
  | step hp hs ih =>
   rename_i y z
   intro hx1
   have hy := ih hx1
   refine Classical.byContradiction fun hz => hx ?_
   rw [Bool.not_eq_true] at hz
   obtain ⟨e, he, hye⟩ : ∃ e, e ∈ g.es ∧ ((e.a = y ∧ e.b = z) ∨ (e.b = y ∧ e.a = z)) := by
    rcases hs with hs | hs
    ·obtain ⟨e, he, q⟩ := endsL_mem hs
     have q1 := congrArg Prod.fst q
     have q2 := congrArg Prod.snd q
     exact ⟨e, he, .inl ⟨by simpa using q1.symm, by simpa using q2.symm⟩⟩
    ·obtain ⟨e, he, q⟩ := endsL_mem hs
     have q1 := congrArg Prod.fst q
     have q2 := congrArg Prod.snd q
     exact ⟨e, he, .inr ⟨by simpa using q2.symm, by simpa using q1.symm⟩⟩
   have hr := h.2.1 e he
   unfold okE at hr
   have hne : e.a ≠ e.b := by
    intro q
    have : y = z := by rcases hye with q2 | q2 <;> omega
    rw [this, hz] at hy; cases hy
   refine ⟨y, z, by rcases hye with q | q <;> omega, by rcases hye with q | q <;> omega, hy, hz, ?_⟩
   have := mulE_ge hE he hne hye
   omega
 rw [key hab hSa] at hSb; cases hSb
set_option maxHeartbeats 1000000
def lstD : Nat → Nat → List (List Int)
 | 0, _ => []
 | 1, d => [[(d : Int)]]
 | n + 2, d => (List.range (d + 1)).flatMap fun k => (lstD (n + 1) (d - k)).map fun r => (k : Int) :: r
def sumL (l : List Int) : Int := l.foldr (· + ·) 0
theorem sumL_cons (x : Int) (l : List Int) : sumL (x :: l) = x + sumL l := rfl
theorem mem_lstD : ∀ {n d : Nat} {l : List Int}, l ∈ lstD (n + 1) d ↔ l.length = n + 1 ∧ (∀ x, x ∈ l → 0 ≤ x) ∧ sumL l = d
 | 0, d, l => by
  simp only [lstD, List.mem_singleton]
  constructor
  ·rintro rfl; exact ⟨rfl, fun x hx => by rw [List.mem_singleton] at hx; omega, by simp [sumL]⟩
  ·rintro ⟨h1, h2, h3⟩
   match l, h1 with
   | [x], _ => simp [sumL] at h3; rw [h3]
 | n + 1, d, l => by
  simp only [lstD, List.mem_flatMap, List.mem_range, List.mem_map]
  constructor
  ·rintro ⟨k, hk, r, hr, rfl⟩
   obtain ⟨h1, h2, h3⟩ := mem_lstD.1 hr
   refine ⟨by simp [h1], fun x hx => ?_, by rw [sumL_cons, h3]; omega⟩
   rcases List.mem_cons.1 hx with rfl | hx
   ·omega
   ·exact h2 x hx
  ·rintro ⟨h1, h2, h3⟩
   match l, h1 with
   | x :: r, h1 =>
    rw [sumL_cons] at h3
    have hx := h2 x (by simp)
    have hr : ∀ y, y ∈ r → 0 ≤ y := fun y hy => h2 y (by simp [hy])
    have hs : 0 ≤ sumL r := by
     clear h1 h2 h3
     induction r with
     | nil => exact Int.le_refl _
     | cons y r ih => rw [sumL_cons]; have := hr y (by simp); have := ih fun z hz => hr z (by simp [hz]); omega
    refine ⟨x.toNat, by omega, r, mem_lstD.2 ⟨by simpa using h1, hr, by omega⟩, ?_⟩
    rw [show (x.toNat : Int) = x by omega]
theorem sumR_head (x : Int) (r : List Int) : ∀ k, sumR (fun v => (x :: r).getD v 0) (k + 1) = x + sumR (fun v => r.getD v 0) k
 | 0 => by simp [sumR]
 | k + 1 => by
  have := sumR_head x r k
  simp only [sumR] at this ⊢
  simp only [List.getD_cons_succ] at this ⊢
  omega
theorem sumR_sumL : ∀ l : List Int, sumR (fun v => l.getD v 0) l.length = sumL l
 | [] => rfl
 | x :: r => by rw [List.length_cons, sumR_head, sumR_sumL r]; rfl
def minL (a b : List Int) : List Int := (List.range a.length).map fun i => a.getD i 0 - b.getD i 0
theorem minL_len (a b : List Int) : (minL a b).length = a.length := by simp [minL]
theorem minL_get (a b : List Int) {i : Nat} (hi : i < a.length) : (minL a b).getD i 0 = a.getD i 0 - b.getD i 0 := by
 unfold minL
 rw [List.getD_eq_getElem?_getD, List.getElem?_map, List.getElem?_range hi]; rfl
section
variable {n : Nat} {M : Nat → Nat → Int}
open Classical in
noncomputable def failL (n : Nat) (M : Nat → Nat → Int) (d : List Int) (k : Nat) : Option (List Int) := (lstD n k).find? fun l => !decide (win n M fun v => (minL d l).getD v 0)
theorem failL_none {d : List Int} (hd : d.length = n) (h0 : 0 < n) {k : Nat} : failL n M d k = none ↔ rankGE n M (fun v => d.getD v 0) k := by
 obtain ⟨m, rfl⟩ : ∃ m, n = m + 1 := ⟨n - 1, by omega⟩
 unfold failL
 rw [List.find?_eq_none]
 constructor
 ·intro h E hE hs
  have hl : ((List.range (m + 1)).map E).length = m + 1 := by simp
  have hg : ∀ v, v < m + 1 → ((List.range (m + 1)).map E).getD v 0 = E v := fun v hv => by
   rw [List.getD_eq_getElem?_getD, List.getElem?_map, List.getElem?_range hv]; rfl
  have hm : (List.range (m + 1)).map E ∈ lstD (m + 1) k := by
   refine mem_lstD.2 ⟨hl, fun x hx => ?_, ?_⟩
   ·obtain ⟨v, hv, rfl⟩ := List.mem_map.1 hx
    exact hE v (List.mem_range.1 hv)
   ·rw [← sumR_sumL, hl, ← hs]
    exact sumR_congr hg
  have := h _ hm
  simp only [Bool.not_eq_true', decide_eq_false_iff_not, Classical.not_not] at this
  refine (win_congr fun v hv => ?_).1 this
  rw [minL_get _ _ (by rw [hd]; exact hv), hg v hv]
 ·intro h l hl
  obtain ⟨h1, h2, h3⟩ := mem_lstD.1 hl
  have := h (fun v => l.getD v 0) (fun v hv => h2 _ (by rw [List.getD_eq_getElem?_getD, List.getElem?_eq_getElem (by omega)]; exact List.getElem_mem _)) (by rw [← h1, sumR_sumL, h3])
  simp only [Bool.not_eq_true', decide_eq_false_iff_not, Classical.not_not]
  refine (win_congr fun v hv => ?_).1 this
  rw [minL_get _ _ (by rw [hd]; exact hv)]
theorem rk_at (hM : Mult n M) (h0 : 0 < n) {d : List Int} (hd : d.length = n) {r : Nat} (h1 : ∀ k, k < r → failL n M d k = none) (h2 : (failL n M d r).isSome = true ∨ sumR (fun v => d.getD v 0) n < (r : Int)) : rkD n M (fun v => d.getD v 0) = (r : Int) - 1 := by
 have hlo := rk_low (n := n) (M := M) fun v => d.getD v 0
 have hup : ¬ (r : Int) ≤ rkD n M (fun v => d.getD v 0) := fun h => by
  have h3 := (rk_ge hM h0).1 h
  rcases h2 with h2 | h2
  ·rw [(failL_none hd h0).2 h3] at h2; cases h2
  ·have := rankGE_deg hM h0 h3; omega
 rcases r with _ | r
 ·omega
 ·have := (rk_ge hM h0).2 ((failL_none hd h0).1 (h1 r (by omega)))
  omega
end
def allV : Nat → Nat → List (List Int)
 | 0, _ => [[]]
 | n + 1, N => (List.range (N + 1)).flatMap fun k : Nat => (allV n N).map fun r => (k : Int) :: r
theorem allV_len : ∀ n N : Nat, (allV n N).length = (N + 1) ^ n
 | 0, _ => rfl
 | n + 1, N => by
  have ih := allV_len n N
  have key : ∀ m, ((List.range m).flatMap fun k : Nat => (allV n N).map fun r => (k : Int) :: r).length = m * (N + 1) ^ n := fun m => by
   induction m with
   | zero => simp
   | succ m im => rw [List.range_succ, List.flatMap_append, List.length_append, im]; simp [ih, Nat.add_mul]
  unfold allV
  rw [key, Nat.pow_succ, Nat.mul_comm]
theorem mem_allV : ∀ {n N : Nat} {l : List Int}, l.length = n → (∀ x, x ∈ l → 0 ≤ x ∧ x ≤ N) → l ∈ allV n N
 | 0, N, l, hl, _ => by rw [List.length_eq_zero_iff.1 hl]; simp [allV]
 | n + 1, N, x :: r, hl, hx => by
  have h1 := hx x (by simp)
  simp only [allV, List.mem_flatMap, List.mem_range, List.mem_map]
  exact ⟨x.toNat, by omega, r, mem_allV (by simpa using hl) (fun y hy => hx y (by simp [hy])), by rw [show (x.toNat : Int) = x by omega]⟩
set_option maxHeartbeats 1000000
theorem stepF_val {t : Int} {v : Nat} {d : List Int} {x : Int × Int} (hv : v < d.length) (hx : x.1.toNat < d.length) (hne : x.1.toNat ≠ v) (w : Nat) :
  (stepF t v d x).getD w 0 = if w = v then d.getD v 0 - x.2 * t else if w = x.1.toNat then d.getD w 0 + x.2 * t else d.getD w 0 := by
 unfold stepF
 rw [getD_set_int _ _ _ _ (by rw [List.length_set]; exact hx), getD_set_int _ _ _ _ hv, getD_set_int _ _ _ _ hv]
 by_cases h1 : w = x.1.toNat
 ·rw [if_pos h1, if_neg hne, if_neg (by omega), if_pos h1, h1]
 ·rw [if_neg h1, if_neg h1]
theorem foldF_val {t : Int} {v : Nat} (w : Nat) : ∀ {l : List (Int × Int)} {d : List Int}, v < d.length → (∀ x, x ∈ l → x.1.toNat < d.length ∧ x.1.toNat ≠ v ∧ 0 ≤ x.1) →
  (l.foldl (stepF t v) d).getD w 0 = if w = v then d.getD v 0 - t * joinL (fun _ => true) l else d.getD w 0 + t * joinL (fun u => decide (u = (w : Int))) l
 | [], d, _, _ => by
  simp only [List.foldl_nil, joinL]
  split
  ·rename_i h; subst h; simp
  ·simp
 | x :: l, d, hv, hl => by
  have hx := hl x (by simp)
  have ih := foldF_val (t := t) (v := v) w (l := l) (d := stepF t v d x) (by rw [stepF_len]; exact hv) fun y hy => by rw [stepF_len]; exact hl y (by simp [hy])
  rw [List.foldl_cons, ih, stepF_val hv hx.1 hx.2.1, stepF_val hv hx.1 hx.2.1, joinL_cons, joinL_cons, if_pos rfl, if_pos rfl]
  by_cases h1 : w = v
  ·rw [if_pos h1, if_pos h1]
   have e1 : (if (true : Bool) = true then x.2 else 0) = x.2 := if_pos rfl
   simp only [if_true, Int.mul_add, Int.mul_comm t x.2]; omega
  ·rw [if_neg h1, if_neg h1, if_neg h1]
   by_cases h2 : w = x.1.toNat
   ·rw [if_pos h2, if_pos (decide_eq_true (by omega)), Int.mul_add, Int.mul_comm t x.2]; omega
   ·rw [if_neg h2, if_neg (by rw [decide_eq_true_eq]; omega), Int.zero_add]
section
variable {n : Nat} {es : List E}
theorem lnk_ok (h : EsOk n es) {v : Nat} {x : Int × Int} (hx : x ∈ lnkL es v) : x.1.toNat < n ∧ x.1.toNat ≠ v ∧ 0 ≤ x.1 := by
 obtain ⟨e, he, _, hne, hab⟩ := lnk_mem hx
 have := h.rng e he
 rcases hab with ⟨q1, q2⟩ | ⟨q1, q2⟩ <;> omega
theorem join_true (h : EsOk n es) (v : Nat) : joinL (fun _ => true) (lnkL es v) = sumR (mulE es v) n := by
 rw [joinL_sum (n := n) _ _ h]
 exact sumR_congr fun u _ => if_pos rfl
theorem join_one (h : EsOk n es) (v : Nat) {w : Nat} (hw : w < n) : joinL (fun u => decide (u = (w : Int))) (lnkL es v) = mulE es v w := by
 rw [joinL_sum (n := n) _ _ h, ← sumR_delta (mulE es v w) w hw]
 refine sumR_congr fun u _ => ?_
 by_cases e : u = w
 ·subst e; rw [if_pos rfl, if_pos (decide_eq_true rfl)]
 ·rw [if_neg e, if_neg (by rw [decide_eq_true_eq]; omega)]
theorem fireV_val (h : EsOk n es) {t : Int} {v : Nat} (hv : v < n) {d : List Int} (hd : d.length = n) {w : Nat} (hw : w < n) : (fireV es t v d).getD w 0 = d.getD w 0 - t * (if w = v then sumR (mulE es v) n else - mulE es v w) := by
 unfold fireV
 rw [foldF_val w (by omega) (fun x hx => by rw [hd]; exact lnk_ok h hx), join_true h, join_one h v hw]
 split
 ·rename_i e; subst e; rfl
 ·rw [Int.mul_neg]; omega
theorem fireD_val (h : EsOk n es) {t : Int} {R : List Bool} {d : List Int} (hd : d.length = n) {w : Nat} (hw : w < n) : ∀ k, k ≤ n →
  (fireD es t R k d).getD w 0 = d.getD w 0 - t * sumR (fun v => if R.getD v false = true then (if w = v then sumR (mulE es v) n else - mulE es v w) else 0) k
 | 0, _ => by simp [fireD, sumR]
 | k + 1, hk => by
  have ih := fireD_val h (t := t) (R := R) hd hw k (by omega)
  unfold fireD
  simp only [sumR]
  by_cases hR : R.getD k false = true
  ·rw [if_pos hR, if_pos hR, fireV_val h (by omega) (by rw [fireD_len]; exact hd) hw, ih, Int.mul_add]; omega
  ·rw [if_neg hR, if_neg hR, ih, Int.add_zero]
def setA (R : List Bool) : Nat → Bool := fun v => R.getD v false
theorem fireD_lap (h : EsOk n es) {t : Int} {R : List Bool} {d : List Int} (hd : d.length = n) {w : Nat} (hw : w < n) : (fireD es t R n d).getD w 0 = d.getD w 0 - lap n (mulE es) (fun u => t * indA (setA R) u) w := by
 rw [fireD_val h hd hw n (Nat.le_refl _), lap_ind]
 have e : sumR (fun v => if R.getD v false = true then (if w = v then sumR (mulE es v) n else - mulE es v w) else 0) n = if setA R w = true then outA n (mulE es) (setA R) w else - inA n (mulE es) (setA R) w := by
  have hin : sumR (fun v => if R.getD v false = true then (if w = v then sumR (mulE es v) n else - mulE es v w) else 0) n = (if setA R w = true then sumR (mulE es w) n else 0) - inA n (mulE es) (setA R) w := by
   have h1 : sumR (fun v => if R.getD v false = true then (if w = v then sumR (mulE es v) n else - mulE es v w) else 0) n = sumR (fun v => (if v = w then (if setA R w = true then sumR (mulE es w) n else 0) else 0) - if setA R v = true then mulE es w v else 0) n := sumR_congr fun v _ => by
    unfold setA
    by_cases e : v = w
    ·subst e
     rw [if_pos rfl, if_pos rfl, mulE_dia]
     split <;> simp
    ·rw [if_neg e, if_neg (Ne.symm e), mulE_sym es v w]
     split <;> omega
   rw [h1, sumR_sub, sumR_delta _ w hw]; rfl
  rw [hin]
  split
  ·have : sumR (mulE es w) n = outA n (mulE es) (setA R) w + inA n (mulE es) (setA R) w := by
    unfold outA inA
    rw [← sumR_add]
    refine sumR_congr fun v _ => ?_
    split <;> omega
   omega
  ·omega
 rw [e]
 split
 ·rfl
 ·rw [Int.mul_neg]
theorem fireS_val {t : Int} {R : List Bool} {s : List Int} {w : Nat} (hs : s.length = n) : ∀ k, k ≤ n → (fireS t R k s).getD w 0 = s.getD w 0 + if w < k ∧ R.getD w false = true then t else 0
 | 0, _ => by simp [fireS]
 | k + 1, hk => by
  have ih := fireS_val (t := t) (R := R) (w := w) hs k (by omega)
  unfold fireS
  by_cases hR : R.getD k false = true
  ·rw [if_pos hR, getD_set_int _ _ _ _ (by rw [fireS_len]; omega)]
   by_cases e : w = k
   ·subst e
    rw [if_pos rfl, ih, if_neg (fun q => by omega), if_pos ⟨by omega, hR⟩]; omega
   ·rw [if_neg e, ih]
    by_cases h2 : w < k ∧ R.getD w false = true
    ·rw [if_pos h2, if_pos ⟨by omega, h2.2⟩]
    ·rw [if_neg h2, if_neg (fun q => h2 ⟨by omega, q.2⟩)]
  ·rw [if_neg hR, ih]
   by_cases h2 : w < k ∧ R.getD w false = true
   ·rw [if_pos h2, if_pos ⟨by omega, h2.2⟩]
   ·rw [if_neg h2, if_neg (fun q => h2 ⟨by
     have := q.1
     by_cases e : w = k
     ·subst e; exact absurd q.2 hR
     ·omega, q.2⟩)]
theorem fireS_ind {t : Int} {R : List Bool} {s : List Int} {w : Nat} (hs : s.length = n) (hw : w < n) : (fireS t R n s).getD w 0 = s.getD w 0 + t * indA (setA R) w := by
 rw [fireS_val hs n (Nat.le_refl _)]
 unfold indA setA
 by_cases h : R.getD w false = true
 ·rw [if_pos ⟨hw, h⟩, if_pos h]; omega
 ·rw [if_neg (fun q => h q.2), if_neg h]; omega
def Led (n : Nat) (es : List E) (d0 d s : List Int) : Prop := ∀ w, w < n → d.getD w 0 = d0.getD w 0 - lap n (mulE es) (fun u => s.getD u 0) w
theorem lap_congr {M : Nat → Nat → Int} {s t : Nat → Int} {w : Nat} (hw : w < n) (h : ∀ u, u < n → s u = t u) : lap n M s w = lap n M t w := by
 unfold lap; exact sumR_congr fun u hu => by rw [h u hu, h w hw]
theorem Led.fire (h : EsOk n es) {d0 d s : List Int} (hl : Led n es d0 d s) (hd : d.length = n) (hs : s.length = n) (t : Int) (R : List Bool) : Led n es d0 (fireD es t R n d) (fireS t R n s) := fun w hw => by
 rw [fireD_lap h hd hw, hl w hw, lap_congr hw fun u hu => fireS_ind (t := t) (R := R) hs hu, lap_add]; omega
theorem fireD_near (h : EsOk n es) {t X : Int} {R : List Bool} {d : List Int} (hd : d.length = n) (ht : 0 ≤ t) (hX : bndL X d) : bndL (X + sizeE es * t) (fireD es t R n d) := fun w => by
 have hs0 : 0 ≤ sizeE es := by
  have := mulE_val h 0
  have := sumR_nonneg (f := mulE es 0) (n := n) fun i _ => mulE_pos h 0 i
  omega
 have hst := Int.mul_nonneg hs0 ht
 by_cases hw : w < n
 ·rw [fireD_lap h hd hw, lap_ind]
  have h1 := hX w
  have hv := mulE_val h w
  have hle : ∀ {y : Int}, 0 ≤ y → y ≤ sumR (mulE es w) n → 0 ≤ t * y ∧ t * y ≤ sizeE es * t := fun {y} h0 hy => ⟨Int.mul_nonneg ht h0, by rw [Int.mul_comm (sizeE es)]; exact Int.mul_le_mul_of_nonneg_left (by omega) ht⟩
  split
  ·have := hle (y := outA n (mulE es) (setA R) w) (sumR_nonneg fun u _ => by have := mulE_pos h w u; split <;> omega) (sumR_le fun u _ => by have := mulE_pos h w u; split <;> omega)
   omega
  ·have := hle (y := inA n (mulE es) (setA R) w) (sumR_nonneg fun u _ => by have := mulE_pos h w u; split <;> omega) (sumR_le fun u _ => by have := mulE_pos h w u; split <;> omega)
   omega
 ·have h0 : (fireD es t R n d).getD w 0 = 0 := by rw [List.getD_eq_getElem?_getD, List.getElem?_eq_none (by rw [fireD_len]; omega)]; rfl
  have h1 := hX w
  rw [h0]; omega
end
end Go.Proofs.Ytdhfgihnoimoaaa
