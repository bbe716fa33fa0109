/- A part of the proof. -/
import Derived.Test.YtfkegnhpihoncaaGreatPart01
import Derived.Test.YtfkegnhpihoncaaGreatLayerC
import Derived.Test.YtfkegnhpihoncaaGreatLayerB
set_option linter.all false
set_option maxHeartbeats 4000000
set_option maxRecDepth 100000
namespace Go.Proofs.YtfkegnhpihoncaaGreat
theorem period_min {N : Nat} {f : Nat → Nat} (h : PermN N f) {x : Nat} (hx : x < N) : ∃ p, 1 ≤ p ∧ p ≤ N ∧ it f p x = x ∧ ∀ i, 1 ≤ i → i < p → it f i x ≠ x := by
 obtain ⟨p, a, b, c, d, _⟩ := face_spec h hx
 exact ⟨p, a, b, c, d⟩
structure Eqv (N : Nat) (R : Nat → Nat → Prop) : Prop where
 refl : ∀ x, x < N → R x x
 symm : ∀ x y, x < N → y < N → R x y → R y x
 trans : ∀ x y z, x < N → y < N → z < N → R x y → R y z → R x z
open Classical in
noncomputable def ncls (N : Nat) (R : Nat → Nat → Prop) : Nat := ((List.range N).filter fun h => decide (∀ y, y < N → R h y → h ≤ y)).length
open Classical in
theorem ncls_congr {N : Nat} {R S : Nat → Nat → Prop} (h : ∀ x y, x < N → y < N → (R x y ↔ S x y)) : ncls N R = ncls N S := by
 unfold ncls
 congr 1
 refine List.filter_congr fun x hx => ?_
 have hx' := List.mem_range.1 hx
 rw [decide_eq_decide]
 exact ⟨fun H y hy hr => H y hy ((h x y hx' hy).2 hr), fun H y hy hr => H y hy ((h x y hx' hy).1 hr)⟩
theorem least_of {P : Nat → Prop} {x : Nat} (hx : P x) : ∃ m, m ≤ x ∧ P m ∧ ∀ y, P y → m ≤ y := by
 induction x using Nat.strongRecOn with
 | _ x ih =>
  by_cases h : ∃ y, y < x ∧ P y
  ·obtain ⟨y, h1, h2⟩ := h
   obtain ⟨m, q1, q2, q3⟩ := ih y h1 h2
   exact ⟨m, by omega, q2, q3⟩
  ·exact ⟨x, Nat.le_refl _, hx, fun y hy => Nat.le_of_not_lt fun hlt => h ⟨y, hlt, hy⟩⟩
theorem filter_minus {l : List Nat} {p q : Nat → Bool} {m : Nat} (hn : l.Nodup) (hm : m ∈ l) (hp : p m = true) (hq : ∀ x, x ∈ l → q x = (p x && decide (x ≠ m))) : (l.filter q).length + 1 = (l.filter p).length := by
 induction l with
 | nil => cases hm
 | cons a l ih =>
  obtain ⟨hna, hnl⟩ := List.nodup_cons.1 hn
  have hqa := hq a (by simp)
  by_cases e : a = m
  ·subst e
   have e1 : q a = false := by rw [hqa]; simp
   have e2 : l.filter q = l.filter p := List.filter_congr fun x hx => by
    rw [hq x (by simp [hx])]
    have : x ≠ a := fun e => hna (e ▸ hx)
    simp [this]
   rw [List.filter_cons, List.filter_cons, e1, hp, if_neg (by simp), if_pos rfl, e2]
   simp
  ·have hml : m ∈ l := by
    rcases List.mem_cons.1 hm with h | h
    ·exact absurd h.symm e
    ·exact h
   have := ih hnl hml fun x hx => hq x (by simp [hx])
   have e1 : q a = p a := by rw [hqa]; simp [e]
   rw [List.filter_cons, List.filter_cons, e1]
   cases p a <;> simp <;> omega
open Classical in
theorem ncls_join {N : Nat} {R S : Nat → Nat → Prop} (hR : Eqv N R) {a b : Nat} (ha : a < N) (hb : b < N) (hab : ¬ R a b)
  (hS : ∀ x y, x < N → y < N → (S x y ↔ R x y ∨ (R a x ∨ R b x) ∧ (R a y ∨ R b y))) : ncls N S + 1 = ncls N R := by
 obtain ⟨u, hu1, ⟨hu2, hu3⟩, hu4⟩ := least_of (P := fun y => y < N ∧ R a y) ⟨ha, hR.refl a ha⟩
 obtain ⟨v, hv1, ⟨hv2, hv3⟩, hv4⟩ := least_of (P := fun y => y < N ∧ R b y) ⟨hb, hR.refl b hb⟩
 have hne : u ≠ v := fun e => by
  subst e
  exact hab (hR.trans a u b ha hu2 hb hu3 (hR.symm b u hb hu2 hv3))
 have main : ∀ a b u v : Nat, a < N → b < N → ¬ R a b → u < N → R a u → (∀ y, y < N ∧ R a y → u ≤ y) → v < N → R b v → (∀ y, y < N ∧ R b y → v ≤ y) → u < v →
   (∀ x y, x < N → y < N → (S x y ↔ R x y ∨ (R a x ∨ R b x) ∧ (R a y ∨ R b y))) → ncls N S + 1 = ncls N R := by
  intro a b u v ha hb hab hu2 hu3 hu4 hv2 hv3 hv4 huv hS
  unfold ncls
  refine filter_minus (m := v) List.nodup_range (List.mem_range.2 hv2) ?_ fun x hx => ?_
  ·exact decide_eq_true fun y hy hr => hv4 y ⟨hy, hR.trans b v y hb hv2 hy hv3 hr⟩
  ·have hx' := List.mem_range.1 hx
   rw [Bool.eq_iff_iff, Bool.and_eq_true, decide_eq_true_eq, decide_eq_true_eq, decide_eq_true_eq]
   constructor
   ·intro H
    refine ⟨fun y hy hr => H y hy ((hS x y hx' hy).2 (.inl hr)), fun e => ?_⟩
    subst e
    have := H u hu2 ((hS x u hx' hu2).2 (.inr ⟨.inr hv3, .inl hu3⟩))
    omega
   ·rintro ⟨H, hxv⟩ y hy hs
    rcases (hS x y hx' hy).1 hs with h | ⟨h1, h2⟩
    ·exact H y hy h
    ·have hxu : x = u := by
      rcases h1 with h1 | h1
      ·have p1 := hu4 x ⟨hx', h1⟩
       have p2 := H u hu2 (hR.trans x a u hx' ha hu2 (hR.symm a x ha hx' h1) hu3)
       omega
      ·have p1 := hv4 x ⟨hx', h1⟩
       have p2 := H v hv2 (hR.trans x b v hx' hb hv2 (hR.symm b x hb hx' h1) hv3)
       omega
     rcases h2 with h2 | h2
     ·have := hu4 y ⟨hy, h2⟩; omega
     ·have := hv4 y ⟨hy, h2⟩; omega
 rcases Nat.lt_or_gt_of_ne hne with h | h
 ·exact main a b u v ha hb hab hu2 hu3 hu4 hv2 hv3 hv4 h hS
 ·refine main b a v u hb ha (fun h => hab (hR.symm b a hb ha h)) hv2 hv3 hv4 hu2 hu3 hu4 h fun x y hx hy => ?_
  rw [hS x y hx hy]
  rw [Or.comm (a := R a x), Or.comm (a := R a y)]
def cycR (f : Nat → Nat) (x y : Nat) : Prop := ∃ i, y = it f i x
theorem cyc_eqv {N : Nat} {f : Nat → Nat} (hp : PermN N f) : Eqv N (cycR f) := by
 refine ⟨fun x _ => ⟨0, rfl⟩, fun x y hx _ ⟨i, hi⟩ => ?_, fun x y z _ _ _ ⟨i, hi⟩ ⟨j, hj⟩ => ⟨j + i, by rw [it_add, ← hi, hj]⟩⟩
 obtain ⟨p, h1, h2, h3, h4⟩ := period_min hp hx
 refine ⟨p - i % p, ?_⟩
 rw [hi, it_mod h1 h3 i, ← it_add, show p - i % p + i % p = p by have := Nat.mod_lt i (show p > 0 by omega); omega, h3]
def swapF (f : Nat → Nat) (a b x : Nat) : Nat := if x = a then f b else if x = b then f a else f x
theorem swap_perm {N : Nat} {f : Nat → Nat} (hp : PermN N f) {a b : Nat} (ha : a < N) (hb : b < N) : PermN N (swapF f a b) := by
 have h1 := hp.lt a ha
 have h2 := hp.lt b hb
 refine ⟨fun x hx => ?_, fun x y hx hy e => ?_⟩
 ·have := hp.lt x hx
  unfold swapF
  split
  ·exact h2
  ·split <;> assumption
 ·have hi := fun u v => hp.inj u v
  by_cases hab : a = b
  ·subst hab
   have q : ∀ z, swapF f a a z = f z := fun z => by
    unfold swapF; split
    ·rename_i h; rw [h]
    ·rfl
   rw [q, q] at e
   exact hi x y hx hy e
  ·have qa : swapF f a b a = f b := by unfold swapF; rw [if_pos rfl]
   have qb : swapF f a b b = f a := by unfold swapF; rw [if_neg (fun e => hab e.symm), if_pos rfl]
   have qo : ∀ z, z ≠ a → z ≠ b → swapF f a b z = f z := fun z h1 h2 => by unfold swapF; rw [if_neg h1, if_neg h2]
   by_cases xa : x = a
   ·subst xa
    rw [qa] at e
    by_cases ya : y = x
    ·exact ya.symm
    ·by_cases yb : y = b
     ·subst yb; rw [qb] at e; exact (hi _ _ hb ha e).symm
     ·rw [qo y ya yb] at e; exact absurd (hi _ _ hb hy e).symm yb
   ·by_cases xb : x = b
    ·subst xb
     rw [qb] at e
     by_cases ya : y = a
     ·subst ya; rw [qa] at e; exact (hi _ _ ha hb e).symm
     ·by_cases yb : y = x
      ·exact yb.symm
      ·rw [qo y ya yb] at e; exact absurd (hi _ _ ha hy e).symm ya
    ·rw [qo x xa xb] at e
     by_cases ya : y = a
     ·subst ya; rw [qa] at e; exact absurd (hi _ _ hx hb e) xb
     ·by_cases yb : y = b
      ·subst yb; rw [qb] at e; exact absurd (hi _ _ hx ha e) xa
      ·rw [qo y ya yb] at e; exact hi _ _ hx hy e
theorem swap_reach {N : Nat} {f : Nat → Nat} (hp : PermN N f) {a b : Nat} (ha : a < N) (hb : b < N) (hab : ¬ cycR f b a) {y : Nat} (hy : cycR f b y) : cycR (swapF f a b) a y := by
 obtain ⟨q, h1, h2, h3, h4⟩ := period_min hp hb
 have key : ∀ i, 1 ≤ i → i ≤ q → it (swapF f a b) i a = it f i b := by
  intro i hi hq
  induction i with
  | zero => omega
  | succ i ih =>
   by_cases e : i = 0
   ·subst e
    show swapF f a b a = f b
    unfold swapF; rw [if_pos rfl]
   ·have := ih (by omega) (by omega)
    show swapF f a b (it (swapF f a b) i a) = f (it f i b)
    rw [this]
    unfold swapF
    rw [if_neg (fun e => hab ⟨i, e.symm⟩), if_neg (h4 i (by omega) (by omega))]
 obtain ⟨i, hi⟩ := hy
 rw [it_mod h1 h3 i] at hi
 by_cases e : i % q = 0
 ·rw [e] at hi
  refine ⟨q, ?_⟩
  rw [key q h1 (Nat.le_refl _), h3, hi]; rfl
 ·refine ⟨i % q, ?_⟩
  rw [key _ (by omega) (Nat.le_of_lt (Nat.mod_lt _ (by omega))), hi]
theorem swap_comm (f : Nat → Nat) (a b : Nat) : swapF f a b = swapF f b a := by
 funext x
 unfold swapF
 by_cases h1 : x = a
 ·by_cases h2 : x = b
  ·rw [if_pos h1, if_pos h2, ← h1, ← h2]
  ·rw [if_pos h1, if_neg h2, if_pos h1]
 ·by_cases h2 : x = b
  ·rw [if_neg h1, if_pos h2, if_pos h2]
  ·rw [if_neg h1, if_neg h2, if_neg h2, if_neg h1]
theorem swap_join {N : Nat} {f : Nat → Nat} (hp : PermN N f) {a b : Nat} (ha : a < N) (hb : b < N) (hab : ¬ cycR f a b) :
  ∀ x y, x < N → y < N → (cycR (swapF f a b) x y ↔ cycR f x y ∨ (cycR f a x ∨ cycR f b x) ∧ (cycR f a y ∨ cycR f b y)) := by
 have hE := cyc_eqv hp
 have hS := cyc_eqv (swap_perm hp ha hb)
 have hba : ¬ cycR f b a := fun h => hab (hE.symm _ _ hb ha h)
 have rb : ∀ y, cycR f b y → cycR (swapF f a b) a y := fun y hy => swap_reach hp ha hb hba hy
 have ra : ∀ y, cycR f a y → cycR (swapF f a b) b y := fun y hy => by rw [swap_comm]; exact swap_reach hp hb ha hab hy
 have hab' : cycR (swapF f a b) a b := rb b ⟨0, rfl⟩
 have hall : ∀ y, y < N → cycR f a y ∨ cycR f b y → cycR (swapF f a b) a y := fun y hy h => by
  rcases h with h | h
  ·exact hS.trans a b y ha hb hy hab' (ra y h)
  ·exact rb y h
 intro x y hx hy
 have hcl : ∀ u, u < N → (cycR f a u ∨ cycR f b u ↔ cycR f a (f u) ∨ cycR f b (f u)) := fun u hu => by
  have h1 : cycR f u (f u) := ⟨1, rfl⟩
  have hfu := hp.lt u hu
  have h2 := hE.symm _ _ hu hfu h1
  exact ⟨fun h => h.imp (fun h => hE.trans _ _ _ ha hu hfu h h1) (fun h => hE.trans _ _ _ hb hu hfu h h1), fun h => h.imp (fun h => hE.trans _ _ _ ha hfu hu h h2) (fun h => hE.trans _ _ _ hb hfu hu h h2)⟩
 constructor
 ·rintro ⟨i, hi⟩
  have hlt : ∀ j, it (swapF f a b) j x < N := fun j => (swap_perm hp ha hb).it_lt hx j
  subst hi
  clear hy
  induction i with
  | zero => exact .inl ⟨0, rfl⟩
  | succ i ih =>
   show cycR f x (swapF f a b (it (swapF f a b) i x)) ∨ _ ∧ (cycR f a (swapF f a b (it (swapF f a b) i x)) ∨ cycR f b (swapF f a b (it (swapF f a b) i x)))
   have hl := hlt i
   generalize it (swapF f a b) i x = u at *
   have aa : cycR f a a := ⟨0, rfl⟩
   have bb : cycR f b b := ⟨0, rfl⟩
   have hux : u = a ∨ u = b → cycR f a x ∨ cycR f b x := fun h => by
    rcases ih with h1 | h1
    ·rcases h with rfl | rfl
     ·exact .inl (hE.symm _ _ hx hl h1)
     ·exact .inr (hE.symm _ _ hx hl h1)
    ·exact h1.1
   by_cases e1 : u = a
   ·have : swapF f a b u = f b := by unfold swapF; rw [if_pos e1]
    rw [this]
    exact .inr ⟨hux (.inl e1), (hcl b hb).1 (.inr bb)⟩
   ·by_cases e2 : u = b
    ·have : swapF f a b u = f a := by unfold swapF; rw [if_neg e1, if_pos e2]
     rw [this]
     exact .inr ⟨hux (.inr e2), (hcl a ha).1 (.inl aa)⟩
    ·have : swapF f a b u = f u := by unfold swapF; rw [if_neg e1, if_neg e2]
     rw [this]
     rcases ih with ⟨j, hj⟩ | ⟨h1, h2⟩
     ·exact .inl ⟨j + 1, by rw [hj]; rfl⟩
     ·exact .inr ⟨h1, (hcl u hl).1 h2⟩
 ·rintro (h | ⟨h1, h2⟩)
  ·by_cases hx2 : cycR f a x ∨ cycR f b x
   ·have hy2 : cycR f a y ∨ cycR f b y := hx2.imp (fun q => hE.trans _ _ _ ha hx hy q h) (fun q => hE.trans _ _ _ hb hx hy q h)
    exact hS.trans x a y hx ha hy (hS.symm _ _ ha hx (hall x hx hx2)) (hall y hy hy2)
   ·obtain ⟨i, rfl⟩ := h
    refine ⟨i, ?_⟩
    clear hy
    have key : ∀ j, it (swapF f a b) j x = it f j x := fun j => by
     induction j with
     | zero => rfl
     | succ j ih =>
      show swapF f a b (it (swapF f a b) j x) = f (it f j x)
      rw [ih]
      unfold swapF
      have hl := hp.it_lt hx j
      rw [if_neg (fun e => hx2 (.inl (hE.symm _ _ hx ha ⟨j, e.symm⟩))), if_neg (fun e => hx2 (.inr (hE.symm _ _ hx hb ⟨j, e.symm⟩)))]
    exact (key i).symm
  ·exact hS.trans x a y hx ha hy (hS.symm _ _ ha hx (hall x hx h1)) (hall y hy h2)
theorem swap_swap (f : Nat → Nat) {a b : Nat} : swapF (swapF f a b) a b = f := by
 funext x
 unfold swapF
 by_cases h1 : x = a
 ·subst h1
  by_cases h2 : b = x
  ·subst h2; simp
  ·simp [h2]
 ·by_cases h2 : x = b
  ·subst h2; simp [h1]
  ·simp [h1, h2]
theorem swap_part {N : Nat} {f : Nat → Nat} (hp : PermN N f) {a b : Nat} (ha : a < N) (hb : b < N) (hne : a ≠ b) (hab : cycR f a b) : ¬ cycR (swapF f a b) a b := by
 obtain ⟨p, h1, h2, h3, h4⟩ := period_min hp ha
 obtain ⟨k, hk⟩ := hab
 rw [it_mod h1 h3 k] at hk
 have hkp := Nat.mod_lt k (show p > 0 by omega)
 generalize k % p = m at *
 have hm : m ≠ 0 := fun e => hne (by rw [hk, e]; rfl)
 have inj : ∀ i j, i < p → j < p → it f i a = it f j a → i = j := by
  have go : ∀ i j, i < j → j < p → it f i a ≠ it f j a := fun i j hij hj e => by
   have e2 : it f (p - j + i) a = a := by
    rw [it_add, e, ← it_add, show p - j + j = p by omega, h3]
   exact h4 (p - j + i) (by omega) (by omega) e2
  intro i j hi hj e
  rcases Nat.lt_trichotomy i j with h | h | h
  ·exact absurd e (go i j h hj)
  ·exact h
  ·exact absurd e.symm (go j i h hi)
 have inv : ∀ i, ∃ j, m < j ∧ j ≤ p ∧ it (swapF f a b) i a = it f j a := by
  intro i
  induction i with
  | zero => exact ⟨p, hkp, Nat.le_refl _, h3.symm⟩
  | succ i ih =>
   obtain ⟨j, j1, j2, j3⟩ := ih
   show ∃ j, m < j ∧ j ≤ p ∧ swapF f a b (it (swapF f a b) i a) = it f j a
   rw [j3]
   by_cases e : j = p
   ·subst e
    rw [h3]
    refine ⟨m + 1, by omega, by omega, ?_⟩
    unfold swapF; rw [if_pos rfl, hk]; rfl
   ·refine ⟨j + 1, by omega, by omega, ?_⟩
    unfold swapF
    rw [if_neg (h4 j (by omega) (by omega)), if_neg]
    ·rfl
    ·intro h
     rw [hk] at h
     have := inj j m (by omega) (by omega) h
     omega
 rintro ⟨i, hi⟩
 obtain ⟨j, j1, j2, j3⟩ := inv i
 rw [j3] at hi
 by_cases e : j = p
 ·subst e; rw [h3] at hi; exact hne hi.symm
 ·rw [hk] at hi
  have := inj m j (by omega) (by omega) hi
  omega
theorem swap_count {N : Nat} {f : Nat → Nat} (hp : PermN N f) {a b : Nat} (ha : a < N) (hb : b < N) (hne : a ≠ b) :
  (cycR f a b ∧ ncls N (cycR (swapF f a b)) = ncls N (cycR f) + 1) ∨ (¬ cycR f a b ∧ ncls N (cycR (swapF f a b)) + 1 = ncls N (cycR f)) := by
 by_cases h : cycR f a b
 ·refine .inl ⟨h, ?_⟩
  have h2 := swap_part hp ha hb hne h
  have := ncls_join (cyc_eqv (swap_perm hp ha hb)) ha hb h2 (swap_join (swap_perm hp ha hb) ha hb h2)
  rw [swap_swap] at this
  omega
 ·exact .inr ⟨h, ncls_join (cyc_eqv hp) ha hb h (swap_join hp ha hb h)⟩
end Go.Proofs.YtfkegnhpihoncaaGreat
namespace Go.Proofs.YtfkegnhpihoncaaGreat
open Go.Sp
def tint (n : Int) : TVal := .t (.int .i64 n)
def tbool (b : Bool) : TVal := .t (.bool b)
def tpair (a b : Int) : TVal := .agg [.int .i64 a, .int .i64 b]
attribute [go_sem] tint tbool tpair
theorem isNaN_ok (n : Int) : ACall Tryz.prog 141 [tint n] (tbool false) := by
 refine ACall.of_body Tryz.func141 rfl (by kernel_rfl) ?_
 simp only [entry, Tryz.ntmps141, tint]
 refine zU ?_
 refine zR trivial trivial trivial ?_
 simp [Rets, aret, Blk.cells, ty, Tryz.results141, ares, toT1, toT, borrow, borrow0, capCell, toTree0, tbool]
theorem vertex_ok (n v : Int) : ACall Tryz.prog 97 [tint n, tint v] (tbool (decide (0 ≤ v ∧ v < n))) := by
 refine ACall.of_body Tryz.func97 rfl (by kernel_rfl) ?_
 simp only [entry, Tryz.ntmps97, tint]
 refine zU ?_
 repeat' (first|((first|(refine zT ?_;intro K' hK')|(refine zG ?_ ?_<;>(try refine zH ?_)<;>intro hguard<;>(try exact zX)<;>try intro K' hK'))<;>((try simp +contextual only [go_sem]);(repeat' first|(with_reducible refine hK' _ _ ?_;clear hK' K')|exact zY|with_reducible refine And.intro ?_ ?_|(with_reducible intro hpath;try exact zP)|(refine hK' _ _ ?_;clear hK' K')|fail);try refine zS ?_))|(refine zE ?_;refine hK _ _ ?_;clear hK K)|(refine zN ?_;try refine zS ?_)|refine zA ?_|(refine zB ?_;intro K hK)|(refine zC ?_ ?_<;>(try refine zH ?_)<;>intro hcond<;>try exact zX)|fail)
 all_goals
  simp [Rets, aret, Blk.cells, ty, Tryz.results97, ares, toT1, toT, borrow, borrow0, capCell, toTree0, tbool]
 all_goals omega
def cmpI (a b : Int) : Int := if a < b then -1 else if b < a then 1 else 0
theorem Compare_ok (a b : Int) : ACall Tryz.prog 103 [tint a, tint b] (tint (cmpI a b)) := by
 refine ACall.of_body Tryz.func103 rfl (by kernel_rfl) ?_
 simp only [entry, Tryz.ntmps103, tint]
 refine zU ?_
 repeat' (first|((first|(refine zT ?_;intro K' hK')|(refine zG ?_ ?_<;>(try refine zH ?_)<;>intro hguard<;>(try exact zX)<;>try intro K' hK'))<;>((try simp +contextual only [go_sem]);(repeat' first|(with_reducible refine hK' _ _ ?_;clear hK' K')|(with_reducible refine zK (isNaN_ok _) ?_;try simp +contextual only [go_sem])|exact zY|with_reducible refine And.intro ?_ ?_|(with_reducible intro hpath;try exact zP)|(refine hK' _ _ ?_;clear hK' K')|fail);try refine zS ?_))|(refine zE ?_;refine hK _ _ ?_;clear hK K)|(refine zN ?_;try refine zS ?_)|refine zA ?_|(refine zB ?_;intro K hK)|(refine zC ?_ ?_<;>(try refine zH ?_)<;>intro hcond<;>try exact zX)|fail)
 all_goals
  simp [Rets, aret, Blk.cells, ty, Tryz.results103, ares, toT1, toT, borrow, borrow0, capCell, toTree0, tint, cmpI]
 all_goals omega
def ints (xs : List Int) : Tree := .slice (xs.map fun x => [.int .i64 x])
def orI : List Int → Int
 | [] => 0
 | x :: xs => if x ≠ 0 then x else orI xs
theorem Or_ok (xs : List Int) (hl : xs.length < 2 ^ 40) : ACall Tryz.prog 102 [.t (ints xs)] (tint (orI xs)) := by
 refine ACall.of_body Tryz.func102 rfl (by kernel_rfl) ?_
 simp only [entry, Tryz.ntmps102, ints]
 refine zU ?_
 repeat' (first|((first|(refine zT ?_;intro K' hK')|(refine zG ?_ ?_<;>(try refine zH ?_)<;>intro hguard<;>(try exact zX)<;>try intro K' hK'))<;>((try simp +contextual only [go_sem, List.length_map]);(repeat' first|(with_reducible refine hK' _ _ ?_;clear hK' K')|exact zY|with_reducible refine And.intro ?_ ?_|(with_reducible intro hpath;try exact zP)|(refine hK' _ _ ?_;clear hK' K')|fail);try refine zS ?_))|(refine zE ?_;refine hK _ _ ?_;clear hK K)|(refine zN ?_;try refine zS ?_)|refine zA ?_|(refine zB ?_;intro K hK)|(refine zC ?_ ?_<;>(try refine zH ?_)<;>intro hcond<;>try exact zX)|fail)
 refine AWp.loopS (α:=Nat) 18 (fun k=>[(3,.c (.int .i64 0)),(6,.c (.slice (xs.map fun x => [.int .i64 x]) .none)),(7,.c (.int .i64 xs.length)),(8,.c (.int .i64 (k : Int)))]) (fun k=>[]) (fun k=>k ≤ xs.length ∧ orI xs = orI (xs.drop k)) (fun k=>xs.length - k) (0) (hk:=Weak.headL 0 18 [3, 6, 7, 8] zW) (h0:=?_) (round:=fun k hI=>?_)
 ·exact ⟨Nat.zero_le _, rfl⟩
 ·obtain ⟨hk, hx⟩ := hI
  by_cases hlt : k < xs.length
  ·have e1 : xs[k]? = some xs[k] := List.getElem?_eq_getElem hlt
   repeat' (first|((first|(refine zT ?_;intro K' hK')|(refine zG ?_ ?_<;>(try refine zH ?_)<;>intro hguard<;>(try exact zX)<;>try intro K' hK'))<;>((try simp +contextual only [go_sem, List.getElem?_map, Int.toNat_natCast, e1]);(repeat' first|(with_reducible refine hK' _ _ ?_;clear hK' K')|exact zY|with_reducible refine And.intro ?_ ?_|(with_reducible intro hpath;try exact zP)|(refine hK' _ _ ?_;clear hK' K')|fail);try refine zS ?_))|(refine zE ?_;refine hK _ _ ?_;clear hK K)|(refine zN ?_;try refine zS ?_)|refine zA ?_|(refine zB ?_;intro K hK)|(refine zC ?_ ?_<;>(try refine zH ?_)<;>intro hcond<;>try exact zX)|fail)
   ·have hxk : orI xs = xs[k] := by rw [hx, List.drop_eq_getElem_cons hlt, orI]; simp_all
    simp [Rets, aret, Blk.cells, ty, Tryz.results102, ares, toT1, toT, borrow, borrow0, capCell, toTree0, tint, hxk]
   ·refine ⟨k + 1,Weak.headN 0 18 [3, 6, 7, 8] zW,?_,?_⟩
    ·exact ⟨hlt, by rw [hx, List.drop_eq_getElem_cons hlt, orI]; simp_all⟩
    ·omega
  ·have ek : k = xs.length := by omega
   have h0 : orI xs = 0 := by rw [hx, ek, List.drop_length, orI]
   refine zR (zc @Int.ofNat_lt trivial) trivial trivial ?_
   simp [Rets, aret, Blk.cells, ty, Tryz.results102, ares, toT1, toT, borrow, borrow0, capCell, toTree0, tint, h0]
theorem compare_ok (a b c d : Int) : ACall Tryz.prog 139 [tpair a b, tpair c d] (tint (orI [cmpI a c, cmpI b d])) := by
 refine ACall.of_body Tryz.func139 rfl (by kernel_rfl) ?_
 simp only [entry, Tryz.ntmps139, tpair]
 refine zU ?_
 repeat' (first|((first|(refine zT ?_;intro K' hK')|(refine zG ?_ ?_<;>(try refine zH ?_)<;>intro hguard<;>(try exact zX)<;>try intro K' hK'))<;>((try simp +contextual only [go_sem, ints, chunks, List.range, List.range.loop]);(repeat' first|(with_reducible refine hK' _ _ ?_;clear hK' K')|((with_reducible first|refine zK (Compare_ok _ _) ?_|refine zL (c:=Or_ok [_, _] (by simp)) (q:=?_));try simp +contextual only [go_sem, ints, chunks, List.range, List.range.loop])|exact zY|with_reducible refine And.intro ?_ ?_|(with_reducible intro hpath;try exact zP)|(refine hK' _ _ ?_;clear hK' K')|fail);try refine zS ?_))|(refine zE ?_;refine hK _ _ ?_;clear hK K)|(refine zN ?_;try refine zS ?_)|refine zA ?_|(refine zB ?_;intro K hK)|(refine zC ?_ ?_<;>(try refine zH ?_)<;>intro hcond<;>try exact zX)|fail)
 simp [Rets, aret, Blk.cells, ty, Tryz.results139, ares, toT1, toT, borrow, borrow0, capCell, toTree0, tint]
theorem joined_ok (a b : Int) : ACall Tryz.prog 98 [tint a, tint b] (tpair (min a b) (max a b)) := by
 refine ACall.of_body Tryz.func98 rfl (by kernel_rfl) ?_
 simp only [entry, Tryz.ntmps98, tint]
 refine zU ?_
 repeat' (first|((first|(refine zT ?_;intro K' hK')|(refine zG ?_ ?_<;>(try refine zH ?_)<;>intro hguard<;>(try exact zX)<;>try intro K' hK'))<;>((try simp +contextual only [go_sem]);(repeat' first|(with_reducible refine hK' _ _ ?_;clear hK' K')|exact zY|with_reducible refine And.intro ?_ ?_|(with_reducible intro hpath;try exact zP)|(refine hK' _ _ ?_;clear hK' K')|fail);try refine zS ?_))|(refine zE ?_;refine hK _ _ ?_;clear hK K)|(refine zN ?_;try refine zS ?_)|refine zA ?_|(refine zB ?_;intro K hK)|(refine zC ?_ ?_<;>(try refine zH ?_)<;>intro hcond<;>try exact zX)|fail)
 all_goals
  simp [Rets, aret, Blk.cells, ty, Tryz.results98, ares, toT1, toT, borrow, borrow0, capCell, toTree0, tpair]
end Go.Proofs.YtfkegnhpihoncaaGreat
namespace Go.Proofs.YtfkegnhpihoncaaGreat
open Go.Sp Go.RowKit
theorem int3 (x y : Int) (w : World) : (Op.equalIn 9999 3 (.int .i64 x) (.int .i64 y)).run Tryz.prog w = .ok (x == y) w :=
 run_equalIn_int w 9998 3 _ _ x y (by simp only [ty] : Tryz.prog.underlying 3 = some (.int .i64))
theorem eqEdgeA (a b c a' b' c' : Int) (w : World) : (Op.equalIn 10000 76 (.agg #[.int .i64 a, .int .i64 b, .int .i64 c]) (.agg #[.int .i64 a', .int .i64 b', .int .i64 c'])).run Tryz.prog w = .ok (decide ([a,b,c] = [a',b',c'])) w := by
 rw [run_equalIn_agg w 9999 76 _ _ (by kernel_rfl) (by kernel_rfl)]
 have hA : tAgg Tryz.prog 3 = some false := by simp only [ty]
 simp [Program.fieldsOf, Tryz.underlying76, Op.eqFields, part, run_tAgg hA, Sem.run_bind, int3]
 by_cases h1 : a = a' <;> by_cases h2 : b = b' <;> by_cases h3 : c = c' <;> simp [*]
theorem eqEdge : EqInts Tryz.prog 76 3 := by
 refine ⟨fun xs ys w x y _ _ => ⟨run_eqGuard_agg w _ _ x y _ _ Tryz.eqGuardType76, run_eqGuard_agg w _ _ x y _ _ Tryz.eqGuardType76⟩, fun xs ys w h1 h2 => ?_⟩
 match xs, ys, h1, h2 with
 | [a, b, c], [a', b', c'], _, _ => exact ⟨by rw [run_eql_struct]; simp only [List.map_cons, List.map_nil]; rw [eqEdgeA]; rfl, by rw [run_neq_struct]; simp only [List.map_cons, List.map_nil]; rw [eqEdgeA]; rfl⟩
end Go.Proofs.YtfkegnhpihoncaaGreat
namespace Go.Proofs.YtfkegnhpihoncaaGreat
open Go.Sp
theorem ktPair : Tryz.prog.keyTypeAt 3 121 = true := by kernel_rfl
theorem tlPair : Tryz.prog.tiled 3 121 = true := by kernel_rfl
theorem widePair : (match Tryz.prog.underlying 121 with | some (.array _ _) | some (.struct _) => true | _ => false) = true := by kernel_rfl
noncomputable def fld0 : Field := (Tryz.prog.fieldsOf 121)[0]!
noncomputable def fld1 : Field := (Tryz.prog.fieldsOf 121)[1]!
set_option maxRecDepth 100000 in
theorem klPair : KeyLaw Tryz.prog 121 (.ints 2) :=
 keyLaw_ints (m := 3) (by decide) ktPair tlPair widePair (intsKey2 (f0 := fld0) (f1 := fld1) (it := 3) (by kernel_rfl) (by kernel_rfl) (by kernel_rfl) (by kernel_rfl) (by kernel_rfl) (by kernel_rfl) (by kernel_rfl) (by kernel_rfl) (by kernel_rfl) (by kernel_rfl) (by kernel_rfl) (of_decide_eq_true (by kernel_rfl : decide (0 < Tryz.prog.types.size) = true)))
theorem klInt : KeyLaw Tryz.prog 3 .int := keyLaw_int Tryz.underlying3
section
variable {N : Nat} {f : Nat → Nat}
theorem perm_range (hp : PermN N f) : ((List.range N).map f).Perm (List.range N) := by
 rw [List.perm_ext_iff_of_nodup ?_ List.nodup_range]
 ·intro y
  rw [List.mem_range]
  constructor
  ·intro h
   obtain ⟨x, hx, rfl⟩ := List.mem_map.1 h
   exact hp.lt _ (List.mem_range.1 hx)
  ·intro hy
   obtain ⟨p, h1, _, h3⟩ := hp.period hy
   refine List.mem_map.2 ⟨it f (p - 1) y, List.mem_range.2 (hp.it_lt hy _), ?_⟩
   rw [← show it f (p - 1 + 1) y = f (it f (p - 1) y) from rfl, show p - 1 + 1 = p by omega, h3]
 ·rw [List.Nodup, List.pairwise_map]
  exact List.pairwise_lt_range.imp_of_mem fun {a b} ha hb hab e => by
   have := hp.inj _ _ (List.mem_range.1 ha) (List.mem_range.1 hb) e
   omega
end
end Go.Proofs.YtfkegnhpihoncaaGreat
