/- A part of the proof: contracts of functions of the program, and plain lemmas. -/
import Derived.Test.YtfkegnhpihoncaaGreatPart01
import Derived.Test.YtfkegnhpihoncaaGreatLayerC
import Derived.Test.YtfkegnhpihoncaaGreatPart08
import Derived.Test.YtfkegnhpihoncaaGreatPart10
import Derived.Test.YtfkegnhpihoncaaGreatPart07
set_option linter.all false
namespace Go.Proofs.YtfkegnhpihoncaaGreat
set_option linter.unusedSimpArgs false
set_option linter.unusedVariables false
theorem period_min {N : Nat} {f : Nat → Nat} (h : PermN N f) {x : Nat} (hx : x < N) : ∃ p, 1 ≤ p ∧ p ≤ N ∧ it f p x = x ∧ ∀ i, 1 ≤ i → i < p → it f i x ≠ x := by
  obtain ⟨p, a, b, c, d, _⟩ := face_spec h hx
  exact ⟨p, a, b, c, d⟩
structure Eqv (N : Nat) (R : Nat → Nat → Prop) : Prop where
  refl : ∀ x, x < N → R x x
  symm : ∀ x y, x < N → y < N → R x y → R y x
  trans : ∀ x y z, x < N → y < N → z < N → R x y → R y z → R x z
open Classical in
noncomputable def ncls (N : Nat) (R : Nat → Nat → Prop) : Nat := ((List.range N).filter fun h => decide (∀ y, y < N → R h y → h ≤ y)).length
open Classical in
theorem ncls_congr {N : Nat} {R S : Nat → Nat → Prop} (h : ∀ x y, x < N → y < N → (R x y ↔ S x y)) : ncls N R = ncls N S := by
  unfold ncls
  congr 1
  refine List.filter_congr fun x hx => ?_
  have hx' := List.mem_range.1 hx
  rw [decide_eq_decide]
  exact ⟨fun H y hy hr => H y hy ((h x y hx' hy).2 hr), fun H y hy hr => H y hy ((h x y hx' hy).1 hr)⟩
theorem least_of {P : Nat → Prop} {x : Nat} (hx : P x) : ∃ m, m ≤ x ∧ P m ∧ ∀ y, P y → m ≤ y := by
  induction x using Nat.strongRecOn with
  | _ x ih =>
    by_cases h : ∃ y, y < x ∧ P y
    · obtain ⟨y, h1, h2⟩ := h
      obtain ⟨m, q1, q2, q3⟩ := ih y h1 h2
      exact ⟨m, by omega, q2, q3⟩
    · exact ⟨x, Nat.le_refl _, hx, fun y hy => Nat.le_of_not_lt fun hlt => h ⟨y, hlt, hy⟩⟩
theorem filter_minus {l : List Nat} {p q : Nat → Bool} {m : Nat} (hn : l.Nodup) (hm : m ∈ l) (hp : p m = true) (hq : ∀ x, x ∈ l → q x = (p x && decide (x ≠ m))) : (l.filter q).length + 1 = (l.filter p).length := by
  induction l with
  | nil => cases hm
  | cons a l ih =>
    obtain ⟨hna, hnl⟩ := List.nodup_cons.1 hn
    have hqa := hq a (by simp)
    by_cases e : a = m
    · subst e
      have e1 : q a = false := by rw [hqa]; simp
      have e2 : l.filter q = l.filter p := List.filter_congr fun x hx => by
        rw [hq x (by simp [hx])]
        have : x ≠ a := fun e => hna (e ▸ hx)
        simp [this]
      rw [List.filter_cons, List.filter_cons, e1, hp, if_neg (by simp), if_pos rfl, e2]
      simp
    · have hml : m ∈ l := by
        rcases List.mem_cons.1 hm with h | h
        · exact absurd h.symm e
        · exact h
      have := ih hnl hml fun x hx => hq x (by simp [hx])
      have e1 : q a = p a := by rw [hqa]; simp [e]
      rw [List.filter_cons, List.filter_cons, e1]
      cases p a <;> simp <;> omega
open Classical in
theorem ncls_join {N : Nat} {R S : Nat → Nat → Prop} (hR : Eqv N R) {a b : Nat} (ha : a < N) (hb : b < N) (hab : ¬ R a b)
    (hS : ∀ x y, x < N → y < N → (S x y ↔ R x y ∨ (R a x ∨ R b x) ∧ (R a y ∨ R b y))) : ncls N S + 1 = ncls N R := by
  obtain ⟨u, hu1, ⟨hu2, hu3⟩, hu4⟩ := least_of (P := fun y => y < N ∧ R a y) ⟨ha, hR.refl a ha⟩
  obtain ⟨v, hv1, ⟨hv2, hv3⟩, hv4⟩ := least_of (P := fun y => y < N ∧ R b y) ⟨hb, hR.refl b hb⟩
  have hne : u ≠ v := fun e => by
    subst e
    exact hab (hR.trans a u b ha hu2 hb hu3 (hR.symm b u hb hu2 hv3))
  have main : ∀ a b u v : Nat, a < N → b < N → ¬ R a b → u < N → R a u → (∀ y, y < N ∧ R a y → u ≤ y) → v < N → R b v → (∀ y, y < N ∧ R b y → v ≤ y) → u < v →
      (∀ x y, x < N → y < N → (S x y ↔ R x y ∨ (R a x ∨ R b x) ∧ (R a y ∨ R b y))) → ncls N S + 1 = ncls N R := by
    intro a b u v ha hb hab hu2 hu3 hu4 hv2 hv3 hv4 huv hS
    unfold ncls
    refine filter_minus (m := v) List.nodup_range (List.mem_range.2 hv2) ?_ fun x hx => ?_
    · exact decide_eq_true fun y hy hr => hv4 y ⟨hy, hR.trans b v y hb hv2 hy hv3 hr⟩
    · have hx' := List.mem_range.1 hx
      rw [Bool.eq_iff_iff, Bool.and_eq_true, decide_eq_true_eq, decide_eq_true_eq, decide_eq_true_eq]
      constructor
      · intro H
        refine ⟨fun y hy hr => H y hy ((hS x y hx' hy).2 (.inl hr)), fun e => ?_⟩
        subst e
        have := H u hu2 ((hS x u hx' hu2).2 (.inr ⟨.inr hv3, .inl hu3⟩))
        omega
      · rintro ⟨H, hxv⟩ y hy hs
        rcases (hS x y hx' hy).1 hs with h | ⟨h1, h2⟩
        · exact H y hy h
        · have hxu : x = u := by
            rcases h1 with h1 | h1
            · have p1 := hu4 x ⟨hx', h1⟩
              have p2 := H u hu2 (hR.trans x a u hx' ha hu2 (hR.symm a x ha hx' h1) hu3)
              omega
            · have p1 := hv4 x ⟨hx', h1⟩
              have p2 := H v hv2 (hR.trans x b v hx' hb hv2 (hR.symm b x hb hx' h1) hv3)
              omega
          rcases h2 with h2 | h2
          · have := hu4 y ⟨hy, h2⟩; omega
          · have := hv4 y ⟨hy, h2⟩; omega
  rcases Nat.lt_or_gt_of_ne hne with h | h
  · exact main a b u v ha hb hab hu2 hu3 hu4 hv2 hv3 hv4 h hS
  · refine main b a v u hb ha (fun h => hab (hR.symm b a hb ha h)) hv2 hv3 hv4 hu2 hu3 hu4 h fun x y hx hy => ?_
    rw [hS x y hx hy]
    rw [Or.comm (a := R a x), Or.comm (a := R a y)]
def cycR (f : Nat → Nat) (x y : Nat) : Prop := ∃ i, y = it f i x
theorem cyc_eqv {N : Nat} {f : Nat → Nat} (hp : PermN N f) : Eqv N (cycR f) := by
  refine ⟨fun x _ => ⟨0, rfl⟩, fun x y hx _ ⟨i, hi⟩ => ?_, fun x y z _ _ _ ⟨i, hi⟩ ⟨j, hj⟩ => ⟨j + i, by rw [it_add, ← hi, hj]⟩⟩
  obtain ⟨p, h1, h2, h3, h4⟩ := period_min hp hx
  refine ⟨p - i % p, ?_⟩
  rw [hi, it_mod h1 h3 i, ← it_add, show p - i % p + i % p = p by have := Nat.mod_lt i (show p > 0 by omega); omega, h3]
def swapF (f : Nat → Nat) (a b x : Nat) : Nat := if x = a then f b else if x = b then f a else f x
theorem swap_perm {N : Nat} {f : Nat → Nat} (hp : PermN N f) {a b : Nat} (ha : a < N) (hb : b < N) : PermN N (swapF f a b) := by
  have h1 := hp.lt a ha
  have h2 := hp.lt b hb
  refine ⟨fun x hx => ?_, fun x y hx hy e => ?_⟩
  · have := hp.lt x hx
    unfold swapF
    split
    · exact h2
    · split <;> assumption
  · have hi := fun u v => hp.inj u v
    by_cases hab : a = b
    · subst hab
      have q : ∀ z, swapF f a a z = f z := fun z => by
        unfold swapF; split
        · rename_i h; rw [h]
        · rfl
      rw [q, q] at e
      exact hi x y hx hy e
    · have qa : swapF f a b a = f b := by unfold swapF; rw [if_pos rfl]
      have qb : swapF f a b b = f a := by unfold swapF; rw [if_neg (fun e => hab e.symm), if_pos rfl]
      have qo : ∀ z, z ≠ a → z ≠ b → swapF f a b z = f z := fun z h1 h2 => by unfold swapF; rw [if_neg h1, if_neg h2]
      by_cases xa : x = a
      · subst xa
        rw [qa] at e
        by_cases ya : y = x
        · exact ya.symm
        · by_cases yb : y = b
          · subst yb; rw [qb] at e; exact (hi _ _ hb ha e).symm
          · rw [qo y ya yb] at e; exact absurd (hi _ _ hb hy e).symm yb
      · by_cases xb : x = b
        · subst xb
          rw [qb] at e
          by_cases ya : y = a
          · subst ya; rw [qa] at e; exact (hi _ _ ha hb e).symm
          · by_cases yb : y = x
            · exact yb.symm
            · rw [qo y ya yb] at e; exact absurd (hi _ _ ha hy e).symm ya
        · rw [qo x xa xb] at e
          by_cases ya : y = a
          · subst ya; rw [qa] at e; exact absurd (hi _ _ hx hb e) xb
          · by_cases yb : y = b
            · subst yb; rw [qb] at e; exact absurd (hi _ _ hx ha e) xa
            · rw [qo y ya yb] at e; exact hi _ _ hx hy e
theorem swap_reach {N : Nat} {f : Nat → Nat} (hp : PermN N f) {a b : Nat} (ha : a < N) (hb : b < N) (hab : ¬ cycR f b a) {y : Nat} (hy : cycR f b y) : cycR (swapF f a b) a y := by
  obtain ⟨q, h1, h2, h3, h4⟩ := period_min hp hb
  have key : ∀ i, 1 ≤ i → i ≤ q → it (swapF f a b) i a = it f i b := by
    intro i hi hq
    induction i with
    | zero => omega
    | succ i ih =>
      by_cases e : i = 0
      · subst e
        show swapF f a b a = f b
        unfold swapF; rw [if_pos rfl]
      · have := ih (by omega) (by omega)
        show swapF f a b (it (swapF f a b) i a) = f (it f i b)
        rw [this]
        unfold swapF
        rw [if_neg (fun e => hab ⟨i, e.symm⟩), if_neg (h4 i (by omega) (by omega))]
  obtain ⟨i, hi⟩ := hy
  rw [it_mod h1 h3 i] at hi
  by_cases e : i % q = 0
  · rw [e] at hi
    refine ⟨q, ?_⟩
    rw [key q h1 (Nat.le_refl _), h3, hi]; rfl
  · refine ⟨i % q, ?_⟩
    rw [key _ (by omega) (Nat.le_of_lt (Nat.mod_lt _ (by omega))), hi]
theorem swap_comm (f : Nat → Nat) (a b : Nat) : swapF f a b = swapF f b a := by
  funext x
  unfold swapF
  by_cases h1 : x = a
  · by_cases h2 : x = b
    · rw [if_pos h1, if_pos h2, ← h1, ← h2]
    · rw [if_pos h1, if_neg h2, if_pos h1]
  · by_cases h2 : x = b
    · rw [if_neg h1, if_pos h2, if_pos h2]
    · rw [if_neg h1, if_neg h2, if_neg h2, if_neg h1]
theorem swap_join {N : Nat} {f : Nat → Nat} (hp : PermN N f) {a b : Nat} (ha : a < N) (hb : b < N) (hab : ¬ cycR f a b) :
    ∀ x y, x < N → y < N → (cycR (swapF f a b) x y ↔ cycR f x y ∨ (cycR f a x ∨ cycR f b x) ∧ (cycR f a y ∨ cycR f b y)) := by
  have hE := cyc_eqv hp
  have hS := cyc_eqv (swap_perm hp ha hb)
  have hba : ¬ cycR f b a := fun h => hab (hE.symm _ _ hb ha h)
  have rb : ∀ y, cycR f b y → cycR (swapF f a b) a y := fun y hy => swap_reach hp ha hb hba hy
  have ra : ∀ y, cycR f a y → cycR (swapF f a b) b y := fun y hy => by rw [swap_comm]; exact swap_reach hp hb ha hab hy
  have hab' : cycR (swapF f a b) a b := rb b ⟨0, rfl⟩
  have hall : ∀ y, y < N → cycR f a y ∨ cycR f b y → cycR (swapF f a b) a y := fun y hy h => by
    rcases h with h | h
    · exact hS.trans a b y ha hb hy hab' (ra y h)
    · exact rb y h
  intro x y hx hy
  have hcl : ∀ u, u < N → (cycR f a u ∨ cycR f b u ↔ cycR f a (f u) ∨ cycR f b (f u)) := fun u hu => by
    have h1 : cycR f u (f u) := ⟨1, rfl⟩
    have hfu := hp.lt u hu
    have h2 := hE.symm _ _ hu hfu h1
    exact ⟨fun h => h.imp (fun h => hE.trans _ _ _ ha hu hfu h h1) (fun h => hE.trans _ _ _ hb hu hfu h h1), fun h => h.imp (fun h => hE.trans _ _ _ ha hfu hu h h2) (fun h => hE.trans _ _ _ hb hfu hu h h2)⟩
  constructor
  · rintro ⟨i, hi⟩
    have hlt : ∀ j, it (swapF f a b) j x < N := fun j => (swap_perm hp ha hb).it_lt hx j
    subst hi
    clear hy
    induction i with
    | zero => exact .inl ⟨0, rfl⟩
    | succ i ih =>
      show cycR f x (swapF f a b (it (swapF f a b) i x)) ∨ _ ∧ (cycR f a (swapF f a b (it (swapF f a b) i x)) ∨ cycR f b (swapF f a b (it (swapF f a b) i x)))
      have hl := hlt i
      generalize it (swapF f a b) i x = u at *
      have aa : cycR f a a := ⟨0, rfl⟩
      have bb : cycR f b b := ⟨0, rfl⟩
      have hux : u = a ∨ u = b → cycR f a x ∨ cycR f b x := fun h => by
        rcases ih with h1 | h1
        · rcases h with rfl | rfl
          · exact .inl (hE.symm _ _ hx hl h1)
          · exact .inr (hE.symm _ _ hx hl h1)
        · exact h1.1
      by_cases e1 : u = a
      · have : swapF f a b u = f b := by unfold swapF; rw [if_pos e1]
        rw [this]
        exact .inr ⟨hux (.inl e1), (hcl b hb).1 (.inr bb)⟩
      · by_cases e2 : u = b
        · have : swapF f a b u = f a := by unfold swapF; rw [if_neg e1, if_pos e2]
          rw [this]
          exact .inr ⟨hux (.inr e2), (hcl a ha).1 (.inl aa)⟩
        · have : swapF f a b u = f u := by unfold swapF; rw [if_neg e1, if_neg e2]
          rw [this]
          rcases ih with ⟨j, hj⟩ | ⟨h1, h2⟩
          · exact .inl ⟨j + 1, by rw [hj]; rfl⟩
          · exact .inr ⟨h1, (hcl u hl).1 h2⟩
  · rintro (h | ⟨h1, h2⟩)
    · by_cases hx2 : cycR f a x ∨ cycR f b x
      · have hy2 : cycR f a y ∨ cycR f b y := hx2.imp (fun q => hE.trans _ _ _ ha hx hy q h) (fun q => hE.trans _ _ _ hb hx hy q h)
        exact hS.trans x a y hx ha hy (hS.symm _ _ ha hx (hall x hx hx2)) (hall y hy hy2)
      · obtain ⟨i, rfl⟩ := h
        refine ⟨i, ?_⟩
        clear hy
        have key : ∀ j, it (swapF f a b) j x = it f j x := fun j => by
          induction j with
          | zero => rfl
          | succ j ih =>
            show swapF f a b (it (swapF f a b) j x) = f (it f j x)
            rw [ih]
            unfold swapF
            have hl := hp.it_lt hx j
            rw [if_neg (fun e => hx2 (.inl (hE.symm _ _ hx ha ⟨j, e.symm⟩))), if_neg (fun e => hx2 (.inr (hE.symm _ _ hx hb ⟨j, e.symm⟩)))]
        exact (key i).symm
    · exact hS.trans x a y hx ha hy (hS.symm _ _ ha hx (hall x hx h1)) (hall y hy h2)
theorem swap_swap (f : Nat → Nat) {a b : Nat} : swapF (swapF f a b) a b = f := by
  funext x
  unfold swapF
  by_cases h1 : x = a
  · subst h1
    by_cases h2 : b = x
    · subst h2; simp
    · simp [h2]
  · by_cases h2 : x = b
    · subst h2; simp [h1]
    · simp [h1, h2]
theorem swap_part {N : Nat} {f : Nat → Nat} (hp : PermN N f) {a b : Nat} (ha : a < N) (hb : b < N) (hne : a ≠ b) (hab : cycR f a b) : ¬ cycR (swapF f a b) a b := by
  obtain ⟨p, h1, h2, h3, h4⟩ := period_min hp ha
  obtain ⟨k, hk⟩ := hab
  rw [it_mod h1 h3 k] at hk
  have hkp := Nat.mod_lt k (show p > 0 by omega)
  generalize k % p = m at *
  have hm : m ≠ 0 := fun e => hne (by rw [hk, e]; rfl)
  have inj : ∀ i j, i < p → j < p → it f i a = it f j a → i = j := by
    have go : ∀ i j, i < j → j < p → it f i a ≠ it f j a := fun i j hij hj e => by
      have e2 : it f (p - j + i) a = a := by
        rw [it_add, e, ← it_add, show p - j + j = p by omega, h3]
      exact h4 (p - j + i) (by omega) (by omega) e2
    intro i j hi hj e
    rcases Nat.lt_trichotomy i j with h | h | h
    · exact absurd e (go i j h hj)
    · exact h
    · exact absurd e.symm (go j i h hi)
  have inv : ∀ i, ∃ j, m < j ∧ j ≤ p ∧ it (swapF f a b) i a = it f j a := by
    intro i
    induction i with
    | zero => exact ⟨p, hkp, Nat.le_refl _, h3.symm⟩
    | succ i ih =>
      obtain ⟨j, j1, j2, j3⟩ := ih
      show ∃ j, m < j ∧ j ≤ p ∧ swapF f a b (it (swapF f a b) i a) = it f j a
      rw [j3]
      by_cases e : j = p
      · subst e
        rw [h3]
        refine ⟨m + 1, by omega, by omega, ?_⟩
        unfold swapF; rw [if_pos rfl, hk]; rfl
      · refine ⟨j + 1, by omega, by omega, ?_⟩
        unfold swapF
        rw [if_neg (h4 j (by omega) (by omega)), if_neg]
        · rfl
        · intro h
          rw [hk] at h
          have := inj j m (by omega) (by omega) h
          omega
  rintro ⟨i, hi⟩
  obtain ⟨j, j1, j2, j3⟩ := inv i
  rw [j3] at hi
  by_cases e : j = p
  · subst e; rw [h3] at hi; exact hne hi.symm
  · rw [hk] at hi
    have := inj m j (by omega) (by omega) hi
    omega
theorem swap_count {N : Nat} {f : Nat → Nat} (hp : PermN N f) {a b : Nat} (ha : a < N) (hb : b < N) (hne : a ≠ b) :
    (cycR f a b ∧ ncls N (cycR (swapF f a b)) = ncls N (cycR f) + 1) ∨ (¬ cycR f a b ∧ ncls N (cycR (swapF f a b)) + 1 = ncls N (cycR f)) := by
  by_cases h : cycR f a b
  · refine .inl ⟨h, ?_⟩
    have h2 := swap_part hp ha hb hne h
    have := ncls_join (cyc_eqv (swap_perm hp ha hb)) ha hb h2 (swap_join (swap_perm hp ha hb) ha hb h2)
    rw [swap_swap] at this
    omega
  · exact .inr ⟨h, ncls_join (cyc_eqv hp) ha hb h (swap_join hp ha hb h)⟩
end Go.Proofs.YtfkegnhpihoncaaGreat
set_option linter.all false
namespace Go.Proofs.YtfkegnhpihoncaaGreat
open Go.Sp
set_option linter.unusedSimpArgs false
set_option linter.unusedVariables false
set_option maxHeartbeats 4000000
set_option maxRecDepth 100000
theorem Holds_ok (l : List Int) (v : Int) (hl : l.length < 2 ^ 40) : ACall Tryz.prog 82 [tints l, tint v] (tbool (decide (v ∈ l))) := by
  refine ACall.of_body Tryz.func82 rfl (by kernel_rfl) ?_
  simp only [entry, Tryz.ntmps82, tints, tint]
  refine zU ?_
  refine zR trivial trivial trivial ?_
  refine AWp.loopS (α:=Nat) 18 (fun i=>[(0,.c (.slice (iRows l) .none)),(1,.c (.int .i64 v)),(5,.c (.int .i64 (i : Int)))]) (fun i=>[]) (fun i=>i ≤ l.length ∧ (v ∈ l ↔ v ∈ l.drop i)) (fun i=>l.length - i) (0) (hk:=Weak.headL 0 18 [0, 1, 5] zW) (h0:=?_) (round:=fun i hI=>?_)
  · exact ⟨Nat.zero_le _, Iff.rfl⟩
  · obtain ⟨hi, hx⟩ := hI
    by_cases hlt : i < l.length
    · have e1 := iRows_get (List.getElem?_eq_getElem hlt)
      rw [List.drop_eq_getElem_cons hlt, List.mem_cons] at hx
      generalize l[i] = x at *
      repeat' (first|((first|(refine zT ?_;intro K' hK')|(refine zG ?_ ?_<;>(try refine zH ?_)<;>intro hguard<;>(try exact zX)<;>try intro K' hK'))<;>((try simp +contextual only [go_sem, e1, iRows_len, Int.toNat_natCast, Int.ofNat_lt]);(repeat' first|(with_reducible refine hK' _ _ ?_;clear hK' K')|exact zY|with_reducible refine And.intro ?_ ?_|(with_reducible intro hpath;try exact zP)|(refine hK' _ _ ?_;clear hK' K')|fail);try refine zS ?_))|(refine zE ?_;refine hK _ _ ?_;clear hK K)|(refine zN ?_;try refine zS ?_)|refine zA ?_|(refine zB ?_;intro K hK)|(refine zC ?_ ?_<;>(try refine zH ?_)<;>intro hcond<;>try exact zX)|fail)
      · have e : v ∈ l := hx.2 (.inl (by omega))
        simp [Rets, aret, Blk.cells, ty, Tryz.results82, ares, toT1, toT, borrow, borrow0, capCell, toTree0, tbool, e]
      · refine ⟨i + 1,Weak.headN 0 18 [0, 1, 5] zW,?_,?_⟩
        · refine ⟨hlt, hx.trans ⟨fun h => h.resolve_left (by omega), .inr⟩⟩
        · omega
    · have ei : i = l.length := by omega
      have e : ¬ v ∈ l := fun h => by have := hx.1 h; rw [ei, List.drop_length] at this; cases this
      refine zR (zc @iRows_len (zc @Int.ofNat_lt trivial)) trivial trivial ?_
      simp [Rets, aret, Blk.cells, ty, Tryz.results82, ares, toT1, toT, borrow, borrow0, capCell, toTree0, tbool, e]
end Go.Proofs.YtfkegnhpihoncaaGreat
set_option linter.all false
namespace Go.Proofs.YtfkegnhpihoncaaGreat
open Go.Sp
set_option linter.unusedSimpArgs false
set_option linter.unusedVariables false
set_option maxHeartbeats 4000000
set_option maxRecDepth 100000
def renGo (n : Int) : List Int → List Int → Int
  | _, [] => 0
  | prev, v :: l => if ¬ (0 ≤ v ∧ v < n) then 2 else if v ∈ prev then 7 else renGo n (prev ++ [v]) l
def rnmE (n : Int) (l : List Int) : Int := if (l.length : Int) ≠ n then 8 else renGo n [] l
noncomputable def relE (g : G) (l : List Int) : Int := if checkG g ≠ 0 then checkG g else rnmE g.n l
noncomputable def relG (g : G) (l : List Int) : G := if relE g l ≠ 0 then ⟨0, []⟩ else ⟨g.n, sortE (movL (fun v => l.getD v.toNat 0) g.es)⟩
end Go.Proofs.YtfkegnhpihoncaaGreat
set_option linter.all false
namespace Go.Proofs.YtfkegnhpihoncaaGreat
open Go.Sp
set_option linter.unusedSimpArgs false
set_option linter.unusedVariables false
def sumR (f : Nat → Int) : Nat → Int
  | 0 => 0
  | n + 1 => sumR f n + f n
theorem sumR_add (f g : Nat → Int) (n : Nat) : sumR (fun i => f i + g i) n = sumR f n + sumR g n := by
  induction n with
  | zero => rfl
  | succ n ih => simp only [sumR, ih]; omega
theorem sumR_zero {f : Nat → Int} {n : Nat} (h : ∀ i, i < n → f i = 0) : sumR f n = 0 := by
  induction n with
  | zero => rfl
  | succ n ih => simp only [sumR, ih fun i hi => h i (by omega), h n (by omega)]; rfl
theorem sumR_congr {f g : Nat → Int} {n : Nat} (h : ∀ i, i < n → f i = g i) : sumR f n = sumR g n := by
  induction n with
  | zero => rfl
  | succ n ih => simp only [sumR, ih fun i hi => h i (by omega), h n (by omega)]
theorem sumR_bound {f : Nat → Int} {n : Nat} {k : Int} (h : ∀ i, i < n → 0 ≤ f i ∧ f i ≤ k) : 0 ≤ sumR f n ∧ sumR f n ≤ k * n := by
  induction n with
  | zero => simp [sumR]
  | succ n ih =>
    have h1 := ih fun i hi => h i (by omega)
    have h2 := h n (by omega)
    have h3 : k * ((n + 1 : Nat) : Int) = k * (n : Int) + k := by rw [Int.natCast_add, Int.mul_add]; simp
    simp only [sumR]; omega
theorem sumR_one {c m : Int} : ∀ {n : Nat}, 0 ≤ c → c < n → sumR (fun i => if (i : Int) = c then m else 0) n = m := by
  intro n
  induction n with
  | zero => intro h1 h2; omega
  | succ n ih =>
    intro h1 h2
    simp only [sumR]
    by_cases e : (n : Int) = c
    · rw [if_pos e, sumR_zero (fun i hi => if_neg (by omega))]; omega
    · rw [if_neg e, ih h1 (by omega)]; omega
theorem distinct_of {es : List E} (h : es.Pairwise ltE) : distinctE es := h.imp fun {x y} h => by unfold ltE at h; unfold neE; omega
theorem cntL_zero {es : List E} {a b : Int} (h : ∀ x, x ∈ es → ¬ (x.a = a ∧ x.b = b)) : cntL es a b = 0 := by
  induction es with
  | nil => rfl
  | cons x xs ih => simp only [cntL]; rw [if_neg (h x (by simp)), ih fun y hy => h y (by simp [hy])]
theorem cntL_cons {x : E} {xs : List E} (h : distinctE (x :: xs)) (a b : Int) : cntL (x :: xs) a b = (if x.a = a ∧ x.b = b then x.m else 0) + cntL xs a b := by
  simp only [cntL]
  by_cases hx : x.a = a ∧ x.b = b
  · rw [if_pos hx, if_pos hx, cntL_zero fun y hy => by
      have := (List.pairwise_cons.1 h).1 y hy
      unfold neE at this; omega]
    omega
  · rw [if_neg hx, if_neg hx]; omega
theorem endsL_cons (x : E) (xs : List E) : endsL (x :: xs) = List.replicate x.m.toNat (x.a, x.b) ++ endsL xs := by simp [endsL]
theorem degL_rep (v : Int) (p : Int × Int) (k : Nat) : degL v (List.replicate k p) = k * (b2i (p.1 = v) + b2i (p.2 = v)) := by
  induction k with
  | zero => simp [degL]
  | succ k ih => rw [List.replicate_succ]; simp only [degL, ih]; rw [Int.natCast_add, Int.add_mul]; omega
theorem degL_val {es : List E} (hd : distinctE es) (hm : ∀ x, x ∈ es → 1 ≤ x.m) (v : Int) : degL v (endsL es) = valL v es + 2 * cntL es v v := by
  induction es with
  | nil => rfl
  | cons x xs ih =>
    have h1 := hm x (by simp)
    have h2 := ih (List.pairwise_cons.1 hd).2 fun y hy => hm y (by simp [hy])
    rw [endsL_cons, degL_append, degL_rep, h2, cntL_cons hd, valL]
    have e : ((x.m.toNat : Nat) : Int) = x.m := by omega
    rw [e]
    simp only [b2i]
    by_cases ha : x.a = v <;> by_cases hb : x.b = v
    · simp [ha, hb]; omega
    · simp [ha, hb]; rw [if_neg (fun h => hb h.symm)]; omega
    · simp [ha, hb]; omega
    · simp [ha, hb]
theorem cnt_sum {n : Nat} {es : List E} (hd : distinctE es) (hr : ∀ x, x ∈ es → 0 ≤ x.a ∧ x.a ≤ x.b ∧ x.b < n) (v : Int) :
    sumR (fun u => cntL es (min v u) (max v u)) n = valL v es + cntL es v v := by
  induction es with
  | nil => simp only [cntL, valL]; rw [sumR_zero fun _ _ => rfl]; rfl
  | cons x xs ih =>
    have h1 := hr x (by simp)
    have h2 := ih (List.pairwise_cons.1 hd).2 fun y hy => hr y (by simp [hy])
    have h3 : sumR (fun u => cntL (x :: xs) (min v u) (max v u)) n = sumR (fun u => if x.a = min v (u : Int) ∧ x.b = max v (u : Int) then x.m else 0) n + sumR (fun u => cntL xs (min v u) (max v u)) n := by
      rw [← sumR_add]; exact sumR_congr fun i _ => cntL_cons hd _ _
    rw [h3, h2, cntL_cons hd, valL]
    by_cases ha : x.a = v
    · have h4 : sumR (fun u => if x.a = min v (u : Int) ∧ x.b = max v (u : Int) then x.m else 0) n = x.m := by
        rw [sumR_congr (g := fun u => if (u : Int) = x.b then x.m else 0), sumR_one (by omega) (by omega)]
        intro i _
        by_cases hi : (i : Int) = x.b
        · rw [if_pos hi, if_pos (by omega)]
        · rw [if_neg hi, if_neg (by omega)]
      rw [h4]
      by_cases hb : x.b = v
      · rw [if_neg (by omega), if_pos (by omega)]; omega
      · rw [if_pos (by omega), if_neg (by omega)]; omega
    · by_cases hb : x.b = v
      · have h4 : sumR (fun u => if x.a = min v (u : Int) ∧ x.b = max v (u : Int) then x.m else 0) n = x.m := by
          rw [sumR_congr (g := fun u => if (u : Int) = x.a then x.m else 0), sumR_one (by omega) (by omega)]
          intro i _
          by_cases hi : (i : Int) = x.a
          · rw [if_pos hi, if_pos (by omega)]
          · rw [if_neg hi, if_neg (by omega)]
        rw [h4, if_pos (by omega), if_neg (by omega)]; omega
      · rw [sumR_zero fun i _ => if_neg (by omega), if_neg (by omega), if_neg (by omega)]; omega
theorem deg_sum {n : Nat} {l : List (Int × Int)} (hr : ∀ p, p ∈ l → (0 ≤ p.1 ∧ p.1 < n) ∧ (0 ≤ p.2 ∧ p.2 < n)) : sumR (fun v => degL v l) n = 2 * l.length := by
  induction l with
  | nil => simp only [degL]; rw [sumR_zero fun _ _ => rfl]; rfl
  | cons p l ih =>
    have h1 := hr p (by simp)
    have h2 := ih fun q hq => hr q (by simp [hq])
    have h3 : sumR (fun v => degL v (p :: l)) n = sumR (fun v => if (v : Int) = p.1 then 1 else 0) n + sumR (fun v => if (v : Int) = p.2 then 1 else 0) n + sumR (fun v => degL v l) n := by
      rw [← sumR_add, ← sumR_add]
      refine sumR_congr fun i _ => ?_
      simp only [degL, b2i]
      congr 1
      congr 1
      · by_cases e : p.1 = (i : Int)
        · rw [if_pos e, if_pos e.symm]
        · rw [if_neg e, if_neg fun h => e h.symm]
      · by_cases e : p.2 = (i : Int)
        · rw [if_pos e, if_pos e.symm]
        · rw [if_neg e, if_neg fun h => e h.symm]
    rw [h3, h2, sumR_one h1.1.1 h1.1.2, sumR_one h1.2.1 h1.2.2, List.length_cons]
    omega
theorem handshake {g : G} {n : Nat} (hc : checkG g = 0) (hn : g.n = n) :
    sumR (fun v => valL v g.es + 2 * cntL g.es v v) n = 2 * (endsL g.es).length ∧
    (∀ v : Int, degL v (endsL g.es) = valL v g.es + 2 * cntL g.es v v) ∧
    (∀ v : Int, sumR (fun u => cntL g.es (min v u) (max v u)) n = valL v g.es + cntL g.es v v) := by
  obtain ⟨h1, h2, h3⟩ := checkG_zero.1 hc
  have hd := distinct_of h3
  have hv : ∀ v : Int, degL v (endsL g.es) = valL v g.es + 2 * cntL g.es v v := degL_val hd fun x hx => by have := h2 x hx; unfold okE at this; omega
  refine ⟨?_, hv, fun v => cnt_sum hd (fun x hx => by have := h2 x hx; unfold okE at this; omega) v⟩
  rw [← deg_sum (n := n) (l := endsL g.es)]
  · exact sumR_congr fun i _ => (hv _).symm
  · intro p hp
    obtain ⟨e, he, hx⟩ := List.mem_flatMap.1 hp
    obtain rfl := List.eq_of_mem_replicate hx
    have := h2 e he
    unfold okE at this
    simp only; omega
end Go.Proofs.YtfkegnhpihoncaaGreat
set_option linter.all false
namespace Go.Proofs.YtfkegnhpihoncaaGreat
open Go.Sp
set_option linter.unusedSimpArgs false
set_option linter.unusedVariables false
def inL (p : Int → Bool) (n : Nat) : List Int := ((List.range n).map fun (i : Nat) => (i : Int)).filter p
def renE (F : Int → Int) (x : E) : E := ⟨F x.a, F x.b, x.m⟩
def bothE (F : Int → Int) (x : E) : Bool := decide (0 ≤ F x.a ∧ 0 ≤ F x.b)
def MonoF (F : Int → Int) : Prop := ∀ u v, 0 ≤ F u → 0 ≤ F v → u < v → F u < F v
def sepN (q : Int → Bool) : List (Int × Int) → Int
  | [] => 0
  | p :: l => (if q p.1 = q p.2 then 0 else 1) + sepN q l
def bothN (q : Int → Bool) : List (Int × Int) → Int
  | [] => 0
  | p :: l => (if q p.1 = true ∧ q p.2 = true then 1 else 0) + bothN q l
end Go.Proofs.YtfkegnhpihoncaaGreat
set_option linter.all false
namespace Go.Proofs.YtfkegnhpihoncaaGreat
open Go.Sp
set_option linter.unusedSimpArgs false
set_option linter.unusedVariables false
def piF (l : List Int) (v : Int) : Int := l.getD v.toNat 0
theorem piF_get {l : List Int} {v : Int} (h : 0 ≤ v ∧ v < l.length) : l[v.toNat]? = some (piF l v) := by
  unfold piF; rw [List.getD_eq_getElem?_getD, List.getElem?_eq_getElem (by omega)]; rfl
structure PermL (n : Nat) (l : List Int) : Prop where
  len : l.length = n
  rng : ∀ x, x ∈ l → 0 ≤ x ∧ x < n
  nd : l.Nodup
theorem PermL.inj {n : Nat} {l : List Int} (h : PermL n l) {u v : Int} (hu : 0 ≤ u ∧ u < n) (hv : 0 ≤ v ∧ v < n) (e : piF l u = piF l v) : u = v := by
  have h1 := piF_get (l := l) (v := u) (by rw [h.len]; exact hu)
  have h2 := piF_get (l := l) (v := v) (by rw [h.len]; exact hv)
  obtain ⟨q1, e1⟩ := List.getElem?_eq_some_iff.1 h1
  obtain ⟨q2, e2⟩ := List.getElem?_eq_some_iff.1 h2
  have hp := List.pairwise_iff_getElem.1 h.nd
  rcases Nat.lt_trichotomy u.toNat v.toNat with h3 | h3 | h3
  · exact absurd (e1.trans (e.trans e2.symm)) (hp _ _ q1 q2 h3)
  · omega
  · exact absurd (e2.trans (e.symm.trans e1.symm)) (hp _ _ q2 q1 h3)
def backN (l : List Int) (n k : Nat) : List Int := (List.range k).foldl (fun B i => B.set (piF l (i : Nat)).toNat ((i : Nat) : Int)) (List.replicate n 0)
def nrm (F : Int → Int) (x : E) : E := ⟨min (F x.a) (F x.b), max (F x.a) (F x.b), x.m⟩
structure Ren (g h : G) (n : Nat) (F : Int → Int) : Prop where
  c : checkG g = 0
  nn : g.n = n
  c' : checkG h = 0
  nn' : h.n = n
  rng : ∀ v : Int, 0 ≤ v ∧ v < n → 0 ≤ F v ∧ F v < n
  inj : ∀ u v : Int, 0 ≤ u ∧ u < n → 0 ≤ v ∧ v < n → F u = F v → u = v
  perm : h.es.Perm (g.es.map (nrm F))
end Go.Proofs.YtfkegnhpihoncaaGreat
