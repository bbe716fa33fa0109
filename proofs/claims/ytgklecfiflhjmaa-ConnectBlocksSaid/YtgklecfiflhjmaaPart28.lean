/- A part of the proof. -/
import Derived.Test.YtgklecfiflhjmaaPart27
import Derived.Test.YtgklecfiflhjmaaPart09
import Derived.Test.YtgklecfiflhjmaaLayerC
set_option linter.all false
set_option maxHeartbeats 4000000
set_option maxRecDepth 100000
namespace Go.Proofs.Ytgklecfiflhjmaa
open Go.Sp
set_option maxHeartbeats 1000000
def ptE (L : List (Nat × Nat)) (l : List Nat) : List (Int × Int) := l.map fun f => (((edL L f).1 : Int), ((edL L f).2 : Int))
def selA (A : Nat → Bool) (m : Nat) : List Nat := (List.range m).filter A
theorem selA_succ (A : Nat → Bool) (m : Nat) : selA A (m + 1) = selA A m ++ if A m = true then [m] else [] := by
 unfold selA
 rw [List.range_succ, List.filter_append, List.filter_cons, List.filter_nil]
theorem mem_selA {A : Nat → Bool} {m f : Nat} : f ∈ selA A m ↔ f < m ∧ A f = true := by
 unfold selA; rw [List.mem_filter, List.mem_range]
theorem ptE_append (L : List (Nat × Nat)) (a b : List Nat) : ptE L (a ++ b) = ptE L a ++ ptE L b := by unfold ptE; rw [List.map_append]
theorem ptE_len (L : List (Nat × Nat)) (l : List Nat) : (ptE L l).length = l.length := by simp [ptE]
theorem ptE_mem {L : List (Nat × Nat)} {l : List Nat} {p : Int × Int} : p ∈ ptE L l ↔ ∃ f, f ∈ l ∧ p = (((edL L f).1 : Int), ((edL L f).2 : Int)) := by
 unfold ptE; rw [List.mem_map]
 exact ⟨fun ⟨f, h1, h2⟩ => ⟨f, h1, h2.symm⟩, fun ⟨f, h1, h2⟩ => ⟨f, h1, h2.symm⟩⟩
theorem b2iN (a b : Nat) : b2i ((a : Int) = (b : Int)) = if a = b then 1 else 0 := by
 unfold b2i
 by_cases h : a = b
 ·rw [if_pos h, if_pos (by omega)]
 ·rw [if_neg h, if_neg (by omega)]
theorem degE_one (L : List (Nat × Nat)) (v f : Nat) : degL (v : Int) (ptE L [f]) = (if (edL L f).1 = v then 1 else 0) + if (edL L f).2 = v then 1 else 0 := by
 show b2i (((edL L f).1 : Int) = (v : Int)) + b2i (((edL L f).2 : Int) = (v : Int)) + 0 = _
 rw [b2iN, b2iN]; omega
theorem deg_par (L : List (Nat × Nat)) (A : Nat → Bool) (v : Nat) : ∀ k, degL (v : Int) (ptE L (selA A k)) % 2 = if xsb (fun e => A e && crs L (fun x => decide (x = v)) e) k = true then 1 else 0
 | 0 => by simp [selA, ptE, degL, xsb]
 | k + 1 => by
  have ih := deg_par L A v k
  rw [selA_succ]
  unfold xsb
  cases hA : A k with
  | false => rw [if_neg (by simp), Bool.false_and, Bool.xor_false, List.append_nil]; exact ih
  | true =>
   rw [if_pos rfl, ptE_append, degL_append, degE_one, Bool.true_and]
   have hcr : crs L (fun x => decide (x = v)) k = xor (decide ((edL L k).1 = v)) (decide ((edL L k).2 = v)) := rfl
   rw [hcr]
   generalize degL (v : Int) (ptE L (selA A k)) = d at *
   generalize xsb (fun e => A e && crs L (fun x => decide (x = v)) e) k = b at *
   by_cases h1 : (edL L k).1 = v <;> by_cases h2 : (edL L k).2 = v
   all_goals simp only [h1, h2, if_true, if_false, decide_true, decide_false]
   all_goals (cases b <;> simp at ih ⊢ <;> omega)
theorem deg_untouched (L : List (Nat × Nat)) (v : Nat) : ∀ l : List Nat, degL (v : Int) (ptE L l) = 0 ↔ ∀ f, f ∈ l → ¬ tch L f v
 | [] => by simp [ptE, degL]
 | f :: l => by
  have ih := deg_untouched L v l
  have e : ptE L (f :: l) = ptE L [f] ++ ptE L l := rfl
  have hb := degL_bound (v : Int) (ptE L l)
  rw [e, degL_append, degE_one]
  constructor
  ·intro h g hg
   have h0 : degL (v : Int) (ptE L l) = 0 ∧ (edL L f).1 ≠ v ∧ (edL L f).2 ≠ v := by
    split at h <;> split at h <;> first | omega | exact ⟨by omega, by assumption, by assumption⟩
   rcases List.mem_cons.1 hg with rfl | hg
   ·exact fun q => q.elim h0.2.1 h0.2.2
   ·exact ih.1 h0.1 g hg
  ·intro h
   have h1 := h f (by simp)
   rw [if_neg (fun q => h1 (.inl q)), if_neg (fun q => h1 (.inr q)), ih.2 fun g hg => h g (by simp [hg])]; rfl
theorem deg_split (L : List (Nat × Nat)) {A D : Nat → Bool} (hs : ∀ f, D f = true → A f = true) (v : Nat) : ∀ k, degL (v : Int) (ptE L (selA A k)) = degL (v : Int) (ptE L (selA D k)) + degL (v : Int) (ptE L (selA (fun f => A f && !D f) k))
 | 0 => by simp [selA, ptE, degL]
 | k + 1 => by
  have ih := deg_split L hs v k
  have h := hs k
  rw [selA_succ, selA_succ, selA_succ]
  simp only [ptE_append, degL_append]
  cases hA : A k <;> cases hD : D k
  ·simp [ptE, degL] at ih ⊢; exact ih
  ·rw [h hD] at hA; cases hA
  ·simp only [Bool.not_false, Bool.and_self, if_true, if_neg (Bool.false_ne_true)]
   rw [show degL (v : Int) (ptE L []) = 0 from rfl]; omega
  ·simp only [Bool.not_true, Bool.and_false, if_true, if_neg (Bool.false_ne_true)]
   rw [show degL (v : Int) (ptE L []) = 0 from rfl]; omega
theorem cross_xorS (L : List (Nat × Nat)) (A S T : Nat → Bool) : cross L A (fun x => xor (S x) (T x)) = xor (cross L A S) (cross L A T) := by
 unfold cross
 rw [← xsb_xor]
 refine xsb_congr fun e _ => ?_
 unfold crs
 simp only
 cases A e <;> cases S (edL L e).1 <;> cases S (edL L e).2 <;> cases T (edL L e).1 <;> cases T (edL L e).2 <;> rfl
theorem edL_mem {L : List (Nat × Nat)} {f : Nat} (hf : f < L.length) : edL L f ∈ L := by
 unfold edL; rw [List.getD_eq_getElem?_getD, List.getElem?_eq_getElem hf]; exact List.getElem_mem hf
theorem even_of {L : List (Nat × Nat)} {n : Nat} {A : Nat → Bool} (hs : SupA L A) (hL : ∀ p, p ∈ L → p.1 < n ∧ p.2 < n) (h : ∀ v, v < n → cross L A (fun x => decide (x = v)) = false) : EvenA L A := fun S => by
 have key : ∀ k, k ≤ n → cross L A (fun x => S x && decide (x < k)) = false := by
  intro k
  induction k with
  | zero => intro _; exact cross_none fun e _ x _ => by simp
  | succ k ih =>
   intro hk
   have e1 : (fun x => S x && decide (x < k + 1)) = fun x => xor (S x && decide (x < k)) (S k && decide (x = k)) := by
    funext x
    by_cases q : x = k
    ·subst q; rw [decide_eq_true (show x < x + 1 by omega), decide_eq_false (show ¬ x < x by omega), decide_eq_true rfl]; cases S x <;> rfl
    ·rw [decide_eq_false q, decide_eq_decide.2 (show x < k + 1 ↔ x < k by omega), Bool.and_false, Bool.xor_false]
   rw [e1, cross_xorS, ih (by omega)]
   cases hS : S k with
   | false => rw [cross_none (S := fun x => false && decide (x = k)) fun e _ x _ => by simp]; rfl
   | true =>
    have := h k (by omega)
    simp only [Bool.true_and]
    rw [this]; rfl
 rw [← key n (Nat.le_refl _)]
 refine cross_congr fun e he x hx => ?_
 have := hL _ (edL_mem (hs e he))
 rw [decide_eq_true (show x < n by rcases hx with rfl | rfl <;> omega), Bool.and_true]
section
variable {L : List (Nat × Nat)} {n : Nat} {A : Nat → Bool}
theorem sel_conn {l : List Nat} {f a b x : Nat} (hf : f ∈ l) (ha : tch L f a) (hb : tch L f b) (h : Conn (ptE L l) x a) : Conn (ptE L l) x b := by
 have hm := (ptE_mem (L := L)).2 ⟨f, hf, rfl⟩
 rcases ha with rfl | rfl <;> rcases hb with rfl | rfl
 ·exact h
 ·exact h.step (.inl hm)
 ·exact h.step (.inr hm)
 ·exact h
theorem sel_ind {l : List Nat} {P : Nat → Prop} (hP : ∀ f a b, f ∈ l → tch L f a → tch L f b → P a → P b) {x y : Nat} (h : Conn (ptE L l) x y) (hx : P x) : P y := by
 induction h with
 | refl => exact hx
 | step _ hs ih =>
  rcases hs with hs | hs
  ·obtain ⟨f, f1, f2⟩ := ptE_mem.1 hs
   have q1 := congrArg Prod.fst f2
   have q2 := congrArg Prod.snd f2
   simp only at q1 q2
   exact hP f _ _ f1 (.inl (by omega)) (.inr (by omega)) ih
  ·obtain ⟨f, f1, f2⟩ := ptE_mem.1 hs
   have q1 := congrArg Prod.fst f2
   have q2 := congrArg Prod.snd f2
   simp only at q1 q2
   exact hP f _ _ f1 (.inr (by omega)) (.inl (by omega)) ih
theorem sel_touched {l : List Nat} {x y : Nat} (h : Conn (ptE L l) x y) : x = y ∨ (∃ f, f ∈ l ∧ tch L f x) ∧ ∃ f, f ∈ l ∧ tch L f y := by
 induction h with
 | refl => exact .inl rfl
 | step hc hs ih =>
  right
  rename_i b c
  obtain ⟨f, f1, f2, f3⟩ : ∃ f, f ∈ l ∧ tch L f b ∧ tch L f c := by
   rcases hs with hs | hs <;>
   ·obtain ⟨f, f1, f2⟩ := ptE_mem.1 hs
    have q1 := congrArg Prod.fst f2
    have q2 := congrArg Prod.snd f2
    simp only at q1 q2
    first
    | exact ⟨f, f1, .inl (by omega), .inr (by omega)⟩
    | exact ⟨f, f1, .inr (by omega), .inl (by omega)⟩
  rcases ih with rfl | ⟨ih, _⟩
  ·exact ⟨⟨f, f1, f2⟩, f, f1, f3⟩
  ·exact ⟨ih, f, f1, f3⟩
theorem two_filters {q p : Nat → Bool} : ∀ {l : List Nat}, (∀ x, x ∈ l → q x = false → p x = true) → (l.filter p).length + l.countP q = l.length + (l.filter fun x => q x && p x).length
 | [], _ => rfl
 | x :: l, h => by
  have ih := two_filters (l := l) fun y hy => h y (by simp [hy])
  have hx := h x (by simp)
  rw [List.filter_cons, List.filter_cons, List.countP_cons, List.length_cons]
  cases hq : q x with
  | false => rw [hx hq]; simp; omega
  | true => cases hp : p x <;> simp <;> omega
theorem sumR_eq {f g : Nat → Int} : ∀ {n : Nat}, (∀ v, v < n → g v ≤ f v) → sumR f n ≤ sumR g n → ∀ v, v < n → f v = g v
 | 0, _, _, v, hv => by omega
 | n + 1, h, hs, v, hv => by
  have hle : ∀ k, k ≤ n → sumR g k ≤ sumR f k := by
   intro k
   induction k with
   | zero => intro _; exact Int.le_refl _
   | succ k ih => intro hk; have := ih (by omega); have := h k (by omega); simp only [sumR]; omega
  have h1 := hle n (Nat.le_refl _)
  have h2 := h n (by omega)
  simp only [sumR] at hs
  by_cases e : v = n
  ·subst e; omega
  ·exact sumR_eq (n := n) (fun v hv => h v (by omega)) (by omega) v (by omega)
theorem sumR_count (T : Nat → Bool) : ∀ n, sumR (fun v => if T v = true then 2 else 0) n = 2 * ((List.range n).countP T : Nat)
 | 0 => rfl
 | n + 1 => by
  rw [List.range_succ, List.countP_append, List.countP_cons, List.countP_nil]
  simp only [sumR]
  rw [sumR_count T n]
  cases T n <;> simp <;> omega
theorem sel_length_one {l : List Nat} (hl : l.Nodup) {r : Nat} (hr : r ∈ l) (h : ∀ x, x ∈ l → x = r) : l.length = 1 := by
 match l, hl, hr, h with
 | [x], _, _, _ => rfl
 | x :: y :: l, hl, _, h =>
  have h1 := h x (by simp)
  have h2 := h y (by simp)
  rw [List.nodup_cons] at hl
  exact absurd (by rw [h1, h2]; simp) hl.1
def CycR (L : List (Nat × Nat)) (n : Nat) (A : Nat → Bool) : Prop :=
 (∀ v : Nat, v < n → degL (v : Int) (ptE L (selA A L.length)) = 0 ∨ degL (v : Int) (ptE L (selA A L.length)) = 2) ∧ 0 < (selA A L.length).length ∧
  ncls n (Conn (ptE L (selA A L.length))) + (List.range n).countP (fun v : Nat => decide (degL (v : Int) (ptE L (selA A L.length)) = 2)) = n + 1
theorem touched_iff {D : Nat → Bool} (hs : SupA L D) {v : Nat} : degL (v : Int) (ptE L (selA D L.length)) ≠ 0 ↔ ∃ f, D f = true ∧ tch L f v := by
 rw [Ne, deg_untouched]
 constructor
 ·intro h
  refine Classical.byContradiction fun hx => h fun f hf ht => hx ⟨f, (mem_selA.1 hf).2, ht⟩
 ·rintro ⟨f, h1, h2⟩ h
  exact h f (mem_selA.2 ⟨hs f h1, h1⟩) h2
theorem even_deg {D : Nat → Bool} (h : EvenA L D) (v : Nat) : degL (v : Int) (ptE L (selA D L.length)) % 2 = 0 := by
 have h1 := deg_par L D v L.length
 have h2 := h (fun x => decide (x = v))
 unfold cross at h2
 rw [h2] at h1
 exact h1
open Classical in
theorem CycR.circ (h : CycR L n A) (hs : SupA L A) (hL : ∀ p, p ∈ L → p.1 < n ∧ p.2 < n) : Circ L A := by
 obtain ⟨hd, hp, hn⟩ := h
 have hlt : ∀ f x, A f = true → tch L f x → x < n := fun f x hf hx => by
  have := hL _ (edL_mem (hs f hf)); rcases hx with rfl | rfl <;> omega
 have hT : (fun v : Nat => decide (degL (v : Int) (ptE L (selA A L.length)) = 2)) = fun v : Nat => decide (degL (v : Int) (ptE L (selA A L.length)) = 2) := rfl
 have ht : ∀ x, (∃ f, A f = true ∧ tch L f x) → degL (x : Int) (ptE L (selA A L.length)) = 2 := fun x ⟨f, hf, hx⟩ => by
  have h1 := (touched_iff hs).2 ⟨f, hf, hx⟩
  have h2 := hd x (hlt f x hf hx)
  omega
 have hroot := two_filters (l := List.range n) (q := fun v : Nat => decide (degL (v : Int) (ptE L (selA A L.length)) = 2)) (p := fun h => decide (∀ y, y < n → Conn (ptE L (selA A L.length)) h y → h ≤ y)) fun x hx hq => by
  rw [decide_eq_false_iff_not] at hq
  refine decide_eq_true fun y hy hc => ?_
  rcases sel_touched hc with q | ⟨⟨f, f1, f2⟩, _⟩
  ·omega
  ·exact absurd (ht x ⟨f, (mem_selA.1 f1).2, f2⟩) hq
 rw [List.length_range] at hroot
 unfold ncls at hn
 have h1 : ((List.range n).filter fun x : Nat => decide (degL (x : Int) (ptE L (selA A L.length)) = 2) && decide (∀ y, y < n → Conn (ptE L (selA A L.length)) x y → x ≤ y)).length = 1 := by omega
 obtain ⟨r, hr⟩ := List.length_eq_one_iff.1 h1
 have all : ∀ x, (∃ f, A f = true ∧ tch L f x) → Conn (ptE L (selA A L.length)) x r := fun x hx => by
  obtain ⟨f, f1, f2⟩ := hx
  have hxn := hlt f x f1 f2
  obtain ⟨m, m1, ⟨m2, m3⟩, m4⟩ := least_of (P := fun y => y < n ∧ Conn (ptE L (selA A L.length)) x y) ⟨hxn, .refl⟩
  have hm : m ∈ [r] := by
   rw [← hr, List.mem_filter, List.mem_range, Bool.and_eq_true, decide_eq_true_eq, decide_eq_true_eq]
   refine ⟨m2, ?_, fun y hy hc => m4 y ⟨hy, m3.trans hc⟩⟩
   rcases sel_touched m3 with q | ⟨_, g, g1, g2⟩
   ·rw [← q]; exact ht x ⟨f, f1, f2⟩
   ·exact ht m ⟨g, (mem_selA.1 g1).2, g2⟩
  rw [List.mem_singleton.1 hm] at m3; exact m3
 refine ⟨hs, even_of hs hL fun v hv => ?_, ?_, fun D h1 h2 h3 e he => ?_⟩
 ·have h1 := deg_par L A v L.length
  unfold cross
  cases hx : xsb (fun e => A e && crs L (fun x => decide (x = v)) e) L.length with
  | false => rfl
  | true =>
   rw [hx, if_pos rfl] at h1
   rcases hd v hv with q | q <;> omega
 ·obtain ⟨f, hf⟩ := List.exists_mem_of_length_pos hp
  exact ⟨f, (mem_selA.1 hf).2⟩
 ·obtain ⟨d, hd1⟩ := h3
  have hsD : SupA L D := fun f hf => hs f (h1 f hf)
  have cl : ∀ f x, A f = true → tch L f x → (∃ g, D g = true ∧ tch L g x) → D f = true := fun f x hf hx hg => by
   refine Classical.byContradiction fun hn => ?_
   have q1 := even_deg h2 x
   have q2 := (touched_iff hsD).2 hg
   have q3 := ht x ⟨f, hf, hx⟩
   have q4 := deg_split L h1 x L.length
   have q5 : degL (x : Int) (ptE L (selA (fun f => A f && !D f) L.length)) ≠ 0 := (touched_iff (fun f hf => by
    rw [Bool.and_eq_true] at hf; exact hs f hf.1)).2 ⟨f, by rw [hf, Bool.eq_false_iff.2 hn]; rfl, hx⟩
   have b1 := degL_bound (x : Int) (ptE L (selA D L.length))
   have b2 := degL_bound (x : Int) (ptE L (selA (fun f => A f && !D f) L.length))
   omega
  have c1 := all (edL L d).1 ⟨d, h1 d hd1, .inl rfl⟩
  have c2 := all (edL L e).1 ⟨e, he, .inl rfl⟩
  have := sel_ind (P := fun x => ∃ g, D g = true ∧ tch L g x) (fun f a b f1 f2 f3 f4 => ⟨f, cl f a (mem_selA.1 f1).2 f2 f4, f3⟩) (c1.trans c2.symm) ⟨d, hd1, .inl rfl⟩
  exact cl e _ he (.inl rfl) this
theorem Circ.conn (h : Circ L A) {x y : Nat} (hx : ∃ f, A f = true ∧ tch L f x) (hy : ∃ f, A f = true ∧ tch L f y) : Conn (ptE L (selA A L.length)) x y := by
 classical
 have hs := h.sup
 obtain ⟨f, f1, f2⟩ := hx
 obtain ⟨g, g1, g2⟩ := hy
 have hev : EvenA L (fun e => A e && decide (∃ u, tch L e u ∧ Conn (ptE L (selA A L.length)) x u)) := fun S => by
  rw [← h.ev (fun u => S u && decide (Conn (ptE L (selA A L.length)) x u))]
  unfold cross
  refine xsb_congr fun e he => ?_
  cases hA : A e with
  | false => simp only [hA, Bool.false_and]
  | true =>
   have hm := mem_selA.2 ⟨he, hA⟩
   unfold crs
   simp only [hA, Bool.true_and]
   by_cases q : Conn (ptE L (selA A L.length)) x (edL L e).1
   ·have q2 := sel_conn hm (.inl rfl) (.inr rfl) q
    rw [decide_eq_true (p := ∃ u, tch L e u ∧ _) ⟨_, .inl rfl, q⟩, decide_eq_true q, decide_eq_true q2, Bool.and_true, Bool.and_true, Bool.true_and]
   ·have q2 : ¬ Conn (ptE L (selA A L.length)) x (edL L e).2 := fun q2 => q (sel_conn hm (.inr rfl) (.inl rfl) q2)
    rw [decide_eq_false (p := ∃ u, tch L e u ∧ _) (by rintro ⟨u, rfl | rfl, hu⟩; exact q hu; exact q2 hu), decide_eq_false q, decide_eq_false q2, Bool.and_false, Bool.and_false, Bool.false_and]; rfl
 have := h.mn _ (fun e he => by rw [Bool.and_eq_true] at he; exact he.1) hev ⟨f, by rw [f1, decide_eq_true (p := ∃ u, tch L f u ∧ _) ⟨x, f2, .refl⟩]; rfl⟩ g g1
 rw [g1, Bool.true_and, decide_eq_true_eq] at this
 obtain ⟨u, u1, u2⟩ := this
 exact sel_conn (mem_selA.2 ⟨hs g g1, g1⟩) u1 g2 u2
theorem conn_roots {l : List Nat} (hne : l ≠ []) (hlt : ∀ f x, f ∈ l → tch L f x → x < n) (all : ∀ x y, (∃ f, f ∈ l ∧ tch L f x) → (∃ f, f ∈ l ∧ tch L f y) → Conn (ptE L l) x y) : ncls n (Conn (ptE L l)) + (List.range n).countP (fun v : Nat => decide (degL (v : Int) (ptE L l) ≠ 0)) = n + 1 := by
 classical
 have tt : ∀ v : Nat, degL (v : Int) (ptE L l) ≠ 0 ↔ ∃ f, f ∈ l ∧ tch L f v := fun v => by
  rw [Ne, deg_untouched]
  constructor
  ·intro h
   exact Classical.byContradiction fun hx => h fun f hf ht => hx ⟨f, hf, ht⟩
  ·rintro ⟨f, h1, h2⟩ h
   exact h f h1 h2
 have hroot := two_filters (l := List.range n) (q := fun v : Nat => decide (degL (v : Int) (ptE L l) ≠ 0)) (p := fun h => decide (∀ y, y < n → Conn (ptE L l) h y → h ≤ y)) fun x hx hq => by
  rw [decide_eq_false_iff_not] at hq
  refine decide_eq_true fun y hy hc => ?_
  rcases sel_touched hc with q | ⟨q, _⟩
  ·omega
  ·exact absurd ((tt x).2 q) hq
 rw [List.length_range] at hroot
 obtain ⟨e0, he0⟩ := List.exists_mem_of_ne_nil _ hne
 have hx0 : ∃ f, f ∈ l ∧ tch L f (edL L e0).1 := ⟨e0, he0, .inl rfl⟩
 obtain ⟨r, r1, ⟨r2, r3⟩, r4⟩ := least_of (P := fun y => y < n ∧ Conn (ptE L l) (edL L e0).1 y) ⟨hlt _ _ he0 (.inl rfl), .refl⟩
 have hrt : ∃ f, f ∈ l ∧ tch L f r := by
  rcases sel_touched r3 with q | ⟨_, q⟩
  ·rw [← q]; exact hx0
  ·exact q
 have h1 : ((List.range n).filter fun x : Nat => decide (degL (x : Int) (ptE L l) ≠ 0) && decide (∀ y, y < n → Conn (ptE L l) x y → x ≤ y)).length = 1 := by
  refine sel_length_one (List.nodup_range.filter _) (r := r) ?_ fun x hx => ?_
  ·rw [List.mem_filter, List.mem_range, Bool.and_eq_true, decide_eq_true_eq, decide_eq_true_eq]
   exact ⟨r2, (tt r).2 hrt, fun y hy hc => r4 y ⟨hy, r3.trans hc⟩⟩
  ·rw [List.mem_filter, List.mem_range, Bool.and_eq_true, decide_eq_true_eq, decide_eq_true_eq] at hx
   obtain ⟨x1, x2, x3⟩ := hx
   have hxt := (tt x).1 x2
   have a1 := x3 r r2 (all x r hxt hrt)
   have a2 := r4 x ⟨x1, all _ x hx0 hxt⟩
   omega
 rw [h1] at hroot
 exact hroot
open Classical in
theorem Circ.cyc (h : Circ L A) (hL : ∀ p, p ∈ L → p.1 < n ∧ p.2 < n) : CycR L n A := by
 have hs := h.sup
 have hlt : ∀ f x, A f = true → tch L f x → x < n := fun f x hf hx => by
  have := hL _ (edL_mem (hs f hf)); rcases hx with rfl | rfl <;> omega
 obtain ⟨e0, he0⟩ := h.ne
 have hroot := conn_roots (n := n) (l := selA A L.length) (fun q => by have := mem_selA.2 ⟨hs e0 he0, he0⟩; rw [q] at this; cases this) (fun f x hf => hlt f x (mem_selA.1 hf).2) fun x y hx hy => h.conn (by obtain ⟨f, f1, f2⟩ := hx; exact ⟨f, (mem_selA.1 f1).2, f2⟩) (by obtain ⟨f, f1, f2⟩ := hy; exact ⟨f, (mem_selA.1 f1).2, f2⟩)
 have hA' : ∀ f, (A f && decide (f ≠ e0)) = true ↔ A f = true ∧ f ≠ e0 := fun f => by rw [Bool.and_eq_true, decide_eq_true_eq]
 generalize hA2 : (fun f => A f && decide (f ≠ e0)) = A' at *
 have hA'' : ∀ f, A' f = true ↔ A f = true ∧ f ≠ e0 := fun f => by rw [← hA2]; exact hA' f
 have hin : InN n (ptE L (selA A' L.length)) := fun p hp => by
  obtain ⟨f, f1, rfl⟩ := ptE_mem.1 hp
  have := hL _ (edL_mem (mem_selA.1 f1).1)
  simp only; omega
 have hlen : (selA A' L.length).length + 1 = (selA A L.length).length := by
  refine filter_minus (m := e0) List.nodup_range (List.mem_range.2 (hs e0 he0)) he0 fun x _ => ?_
  rw [← hA2]
 have hac : acyc (ptE L (selA A' L.length)) := by
  intro k p hp hc
  unfold ptE at hp hc
  rw [List.getElem?_map] at hp
  obtain ⟨f, hf, rfl⟩ := Option.map_eq_some_iff.1 hp
  rw [← List.map_take] at hc
  simp only [Int.toNat_natCast] at hc
  have hfm := mem_selA.1 (List.mem_of_getElem? hf)
  have hnd : (selA A' L.length).Nodup := List.nodup_range.filter _
  have hnf : f ∉ (selA A' L.length).take k := fun hm => by
   obtain ⟨i, hi⟩ := List.mem_iff_getElem?.1 hm
   have hik : i < k := by
    have := (List.getElem?_eq_some_iff.1 hi).1
    rw [List.length_take] at this; omega
   rw [List.getElem?_take_of_lt hik] at hi
   have := (List.getElem?_inj (List.getElem?_eq_some_iff.1 hi).1 hnd).1 (hi.trans hf.symm)
   omega
  obtain ⟨B, b1, b2, b3⟩ := path_of (P := fun g => g ∈ (selA A' L.length).take k) (fun p hp => by
   obtain ⟨g, g1, rfl⟩ := List.mem_map.1 hp
   exact ⟨g, (mem_selA.1 (List.mem_of_mem_take g1)).1, g1, rfl⟩) hc
  have hBf : B f = false := by
   cases q : B f with
   | false => rfl
   | true => exact absurd (b2 f q) hnf
  obtain ⟨C, c1, c2, c3⟩ := even_in hfm.1 b1 hBf (fun S => by rw [b3]; rfl)
  have hsub : ∀ g, C g = true → A' g = true := fun g hg => by
   rcases c3 g hg with rfl | hg
   ·exact hfm.2
   ·exact (mem_selA.1 (List.mem_of_mem_take (b2 g hg))).2
  have := h.mn C (fun g hg => ((hA'' g).1 (hsub g hg)).1) c1.ev ⟨f, c2⟩ e0 he0
  exact ((hA'' e0).1 (hsub e0 this)).2 rfl
 have hnl := (ncls_len _ hin).2.1 hac
 rw [ptE_len] at hnl
 have hcon : Conn (ptE L (selA A' L.length)) (edL L e0).1 (edL L e0).2 := by
  refine Classical.byContradiction fun hn => ?_
  have hev := h.ev (fun x => decide (Conn (ptE L (selA A' L.length)) (edL L e0).1 x))
  unfold cross at hev
  rw [xsb_one (i := e0) (fun g hg => ?_) (hs e0 he0), he0, Bool.true_and] at hev
  ·unfold crs at hev
   simp only at hev
   rw [decide_eq_true Conn.refl, decide_eq_false hn] at hev
   cases hev
  ·cases hC : A g with
   | false => rfl
   | true =>
    have hm := mem_selA.2 ⟨hs g hC, (hA'' g).2 ⟨hC, hg⟩⟩
    rw [Bool.true_and]
    unfold crs
    simp only
    rw [decide_eq_decide.2 (show Conn (ptE L (selA A' L.length)) (edL L e0).1 (edL L g).1 ↔ Conn (ptE L (selA A' L.length)) (edL L e0).1 (edL L g).2 from ⟨sel_conn hm (.inl rfl) (.inr rfl), sel_conn hm (.inr rfl) (.inl rfl)⟩), Bool.xor_self]
 have hnc : ncls n (Conn (ptE L (selA A L.length))) = ncls n (Conn (ptE L (selA A' L.length))) := by
  rw [← ncls_snoc_in hcon]
  refine ncls_congr fun x y _ _ => ⟨conn_le fun p hp => ?_, conn_le fun p hp => ?_⟩
  ·obtain ⟨f, f1, rfl⟩ := ptE_mem.1 hp
   obtain ⟨f2, f3⟩ := mem_selA.1 f1
   rw [List.mem_append]
   by_cases q : f = e0
   ·right; rw [q]; simp
   ·exact .inl (ptE_mem.2 ⟨f, mem_selA.2 ⟨f2, (hA'' f).2 ⟨f3, q⟩⟩, rfl⟩)
  ·rcases List.mem_append.1 hp with hp | hp
   ·obtain ⟨f, f1, rfl⟩ := ptE_mem.1 hp
    obtain ⟨f2, f3⟩ := mem_selA.1 f1
    exact ptE_mem.2 ⟨f, mem_selA.2 ⟨f2, ((hA'' f).1 f3).1⟩, rfl⟩
   ·rw [List.mem_singleton.1 hp]
    exact ptE_mem.2 ⟨e0, mem_selA.2 ⟨hs e0 he0, he0⟩, rfl⟩
 have hsum := deg_sum (n := n) (l := ptE L (selA A L.length)) (fun p hp => by
  obtain ⟨f, f1, rfl⟩ := ptE_mem.1 hp
  have := hL _ (edL_mem (mem_selA.1 f1).1)
  simp only; omega)
 rw [ptE_len] at hsum
 have hcount := sumR_count (fun v : Nat => decide (degL (v : Int) (ptE L (selA A L.length)) ≠ 0)) n
 have heq := sumR_eq (n := n) (f := fun v : Nat => degL (v : Int) (ptE L (selA A L.length))) (g := fun v : Nat => if decide (degL (v : Int) (ptE L (selA A L.length)) ≠ 0) = true then 2 else 0) (fun v hv => by
  have h1 := even_deg h.ev v
  have h2 := degL_bound (v : Int) (ptE L (selA A L.length))
  simp only [decide_eq_true_eq]
  split <;> omega) (by rw [hsum, hcount]; omega)
 have hd : ∀ v : Nat, v < n → degL (v : Int) (ptE L (selA A L.length)) = 0 ∨ degL (v : Int) (ptE L (selA A L.length)) = 2 := fun v hv => by
  have := heq v hv
  simp only [decide_eq_true_eq] at this
  split at this <;> omega
 refine ⟨hd, by omega, ?_⟩
 rw [← hroot]
 congr 1
 refine List.countP_congr fun v hv => ?_
 rw [decide_eq_true_eq, decide_eq_true_eq]
 have := hd v (List.mem_range.1 hv)
 omega
end
end Go.Proofs.Ytgklecfiflhjmaa
