/- A part of the proof. -/
import Derived.Test.YtdhfgihnoimoaaaPart12
import Derived.Test.YtdhfgihnoimoaaaLayerC
import Derived.Test.YtdhfgihnoimoaaaPart06
import Derived.Test.YtdhfgihnoimoaaaPart10
import Derived.Test.YtdhfgihnoimoaaaPart04
import Derived.Test.YtdhfgihnoimoaaaPart05
import Derived.Test.YtdhfgihnoimoaaaPart08
import Derived.Test.YtdhfgihnoimoaaaPart02
set_option linter.all false
set_option maxHeartbeats 4000000
set_option maxRecDepth 100000
namespace Go.Proofs.Ytdhfgihnoimoaaa
open Go.Sp
theorem snoc_ind {α : Type} {P : List α → Prop} (h0 : P []) (h1 : ∀ l x, P l → P (l ++ [x])) (l : List α) : P l := by
 have : ∀ r : List α, P r.reverse := fun r => by
  induction r with
  | nil => simpa using h0
  | cons x xs ih => rw [List.reverse_cons]; exact h1 _ _ ih
 simpa using this l.reverse
inductive Conn (l : List (Int × Int)) (a : Nat) : Nat → Prop
 | refl : Conn l a a
 | step {b c : Nat} : Conn l a b → (((b : Int), (c : Int)) ∈ l ∨ ((c : Int), (b : Int)) ∈ l) → Conn l a c
theorem Conn.trans {l : List (Int × Int)} {a b c : Nat} (h1 : Conn l a b) (h2 : Conn l b c) : Conn l a c := by
 induction h2 with
 | refl => exact h1
 | step _ h ih => exact .step ih h
theorem Conn.one {l : List (Int × Int)} {b c : Nat} (h : ((b : Int), (c : Int)) ∈ l ∨ ((c : Int), (b : Int)) ∈ l) : Conn l b c := .step .refl h
theorem Conn.symm {l : List (Int × Int)} {a b : Nat} (h : Conn l a b) : Conn l b a := by
 induction h with
 | refl => exact .refl
 | step _ h ih => exact (Conn.one h.symm).trans ih
theorem Conn.mono {l m : List (Int × Int)} (hs : ∀ p, p ∈ l → p ∈ m) {a b : Nat} (h : Conn l a b) : Conn m a b := by
 induction h with
 | refl => exact .refl
 | step _ h ih => exact .step ih (h.imp (hs _) (hs _))
theorem Conn.bound {l : List (Int × Int)} {n : Nat} (hr : ∀ p, p ∈ l → (0 ≤ p.1 ∧ p.1 < n) ∧ (0 ≤ p.2 ∧ p.2 < n)) {a b : Nat} (h : Conn l a b) (ha : n ≤ a) : b = a := by
 induction h with
 | refl => rfl
 | step _ h ih =>
  rcases h with h | h
  ·have := hr _ h; simp only at this; omega
  ·have := hr _ h; simp only at this; omega
theorem root_fix {F : List Nat} (h : FOk F) : ∀ {u : Nat}, u < 12 → F[rootF F 12 u]? = some (rootF F 12 u) := by
 intro u
 induction u using Nat.strongRecOn with
 | _ u ih =>
  intro hu
  have hul : u < F.length := by rw [h.len]; exact hu
  have hle := h.le u hul
  rw [rootF_step h hul]
  by_cases e : F[u] = u
  ·rw [if_pos e, List.getElem?_eq_getElem hul, e]
  ·rw [if_neg e]; exact ih _ (by omega) (by omega)
theorem root_self {F : List Nat} (h : FOk F) {u : Nat} (hu : u < 12) (e : F[u]? = some u) : rootF F 12 u = u := by
 have hul : u < F.length := by rw [h.len]; exact hu
 rw [rootF_step h hul, if_pos (by rw [List.getElem?_eq_getElem hul] at e; exact Option.some.inj e)]
theorem root_lt {F : List Nat} (h : FOk F) {u : Nat} (hu : u < 12) : rootF F 12 u < 12 := by
 have := rootF_le h (n := 12) hu; omega
theorem root_iff {F : List Nat} (h : FOk F) {u : Nat} (hu : u < 12) : rootF F 12 u = u ↔ F[u]? = some u :=
 ⟨fun e => by have := root_fix h hu; rwa [e] at this, root_self h hu⟩
theorem union_root {F : List Nat} (h : FOk F) {M m : Nat} (hM : M < 12) (hm : m ≤ M) (eM : F[M]? = some M) (em : F[m]? = some m) : ∀ {u : Nat}, u < 12 → rootF (F.set M m) 12 u = if rootF F 12 u = M then m else rootF F 12 u := by
 have h' : FOk (F.set M m) := ⟨by simp [h.len], fun i hi => by
  rw [List.getElem_set]; split
  ·omega
  ·exact h.le i (by simpa using hi)⟩
 intro u
 induction u using Nat.strongRecOn with
 | _ u ih =>
  intro hu
  have hul : u < F.length := by rw [h.len]; exact hu
  have hul' : u < (F.set M m).length := by simpa using hul
  have hle := h.le u hul
  rw [rootF_step h' hul', List.getElem_set]
  by_cases e : M = u
  ·subst e
   rw [if_pos rfl, root_self h hu eM, if_pos rfl]
   by_cases e2 : m = M
   ·rw [if_pos e2]; exact e2.symm
   ·rw [if_neg e2, ih m (by omega) (by omega), root_self h (by omega) em, if_neg e2]
  ·rw [if_neg e, rootF_step h hul]
   by_cases e2 : F[u] = u
   ·rw [if_pos e2, if_pos e2, if_neg (fun x => e x.symm)]
   ·rw [if_neg e2, if_neg e2]; exact ih _ (by omega) (by omega)
def rootsN (F : List Nat) : Nat → Int
 | 0 => 0
 | k + 1 => rootsN F k + (if F[k]? = some k then 1 else 0)
theorem rootsN_set {F : List Nat} {M m : Nat} (hM : M < F.length) (hne : m ≠ M) (eM : F[M]? = some M) (k : Nat) : rootsN (F.set M m) k = rootsN F k - (if M < k then 1 else 0) := by
 induction k with
 | zero => simp [rootsN]
 | succ k ih =>
  simp only [rootsN, ih]
  by_cases e : M = k
  ·subst e
   rw [List.getElem?_set_self hM, if_neg (show ¬ (some m = some M) from fun h => hne (Option.some.inj h)), if_pos eM, if_neg (show ¬ M < M by omega), if_pos (show M < M + 1 by omega)]; omega
  ·rw [List.getElem?_set_ne e]
   by_cases e2 : M < k
   ·rw [if_pos e2, if_pos (show M < k + 1 by omega)]; omega
   ·rw [if_neg e2, if_neg (show ¬ M < k + 1 by omega)]; omega
structure UF (l : List (Int × Int)) : Prop where
 ok : FOk (genS l).1
 sound : ∀ u, u < 12 → Conn l u (rootF (genS l).1 12 u)
 all : ∀ p, p ∈ l → rootF (genS l).1 12 p.1.toNat = rootF (genS l).1 12 p.2.toNat
 cnt : (genS l).2 + 12 = l.length + rootsN (genS l).1 12
def In12 (l : List (Int × Int)) : Prop := ∀ p, p ∈ l → (0 ≤ p.1 ∧ p.1 < 12) ∧ (0 ≤ p.2 ∧ p.2 < 12)
theorem uf (l : List (Int × Int)) (hr : In12 l) : UF l := by
 revert hr
 refine snoc_ind (P := fun l => In12 l → UF l) ?_ ?_ l
 ·intro _
  have h0 : FOk (List.range 12) := ⟨by simp, fun i hi => by simp⟩
  refine ⟨h0, fun u hu => ?_, (fun p hp => absurd hp (by simp)), ?_⟩
  ·have e : rootF (genS []).1 12 u = u := root_self h0 hu (by rw [List.getElem?_range hu])
   rw [e]; exact .refl
  ·decide
 ·intro l p ih hr
  have hl := ih fun q hq => hr q (by simp [hq])
  have hp := hr p (by simp)
  obtain ⟨ok, sound, all, cnt⟩ := hl
  have hsn := genS_snoc l p
  have ok' := genStep_ok (s := genS l) ok hp.1 hp.2
  rw [← hsn] at ok'
  generalize hF : (genS l).1 = F at *
  generalize hc : (genS l).2 = c at *
  have h1 : p.1.toNat < 12 := by omega
  have h2 : p.2.toNat < 12 := by omega
  have e1 := root_fix ok h1
  have e2 := root_fix ok h2
  have l1 := root_lt ok h1
  have l2 := root_lt ok h2
  have hgF : (genS (l ++ [p])).1 = F.set (max (rootF F 12 p.1.toNat) (rootF F 12 p.2.toNat)) (min (rootF F 12 p.1.toNat) (rootF F 12 p.2.toNat)) := by rw [hsn]; simp only [genStep, hF]
  have hgc : (genS (l ++ [p])).2 = if rootF F 12 p.1.toNat = rootF F 12 p.2.toNat then c + 1 else c := by rw [hsn]; simp only [genStep, hF, hc]
  have c1 := sound _ h1
  have c2 := sound _ h2
  have hsub : ∀ q, q ∈ l → q ∈ l ++ [p] := fun q hq => by simp [hq]
  have hpp : Conn (l ++ [p]) p.1.toNat p.2.toNat := Conn.one (.inl (by
   have : ((p.1.toNat : Nat) : Int) = p.1 := by omega
   have h3 : ((p.2.toNat : Nat) : Int) = p.2 := by omega
   rw [this, h3]; simp))
  have hab : Conn (l ++ [p]) (rootF F 12 p.1.toNat) (rootF F 12 p.2.toNat) := ((c1.mono hsub).symm.trans hpp).trans (c2.mono hsub)
  generalize ha : rootF F 12 p.1.toNat = a at *
  generalize hb : rootF F 12 p.2.toNat = b at *
  have eM : F[max a b]? = some (max a b) := by rcases Nat.le_total a b with h | h <;> simp [Nat.max_eq_right, Nat.max_eq_left, h, e1, e2]
  have em : F[min a b]? = some (min a b) := by rcases Nat.le_total a b with h | h <;> simp [Nat.min_eq_right, Nat.min_eq_left, h, e1, e2]
  have hun := fun {u : Nat} (hu : u < 12) => union_root ok (M := max a b) (m := min a b) (by omega) (by omega) eM em hu
  refine ⟨ok', fun u hu => ?_, fun q hq => ?_, ?_⟩
  ·rw [hgF, hun hu]
   have hs := (sound u hu).mono hsub
   by_cases e : rootF F 12 u = max a b
   ·rw [if_pos e]
    refine hs.trans ?_
    rw [e]
    rcases Nat.le_total a b with h | h
    ·rw [Nat.max_eq_right h, Nat.min_eq_left h]; exact hab.symm
    ·rw [Nat.max_eq_left h, Nat.min_eq_right h]; exact hab
   ·rw [if_neg e]; exact hs
  ·rw [hgF]
   rcases List.mem_append.1 hq with hq | hq
   ·have hq2 := hr q (by simp [hq])
    rw [hun (by omega), hun (by omega), all q hq]
   ·obtain rfl := List.mem_singleton.1 hq
    rw [hun h1, hun h2, ha, hb]
    by_cases x : a = max a b <;> by_cases y : b = max a b
    ·rw [if_pos x, if_pos y]
    ·rw [if_pos x, if_neg y]; omega
    ·rw [if_neg x, if_pos y]; omega
    ·omega
  ·rw [hgF, hgc, List.length_append, List.length_singleton]
   by_cases e : a = b
   ·subst e
    rw [if_pos rfl, Nat.max_self, Nat.min_self]
    have hal : a < F.length := by rw [ok.len]; exact l1
    have : F.set a a = F := by
     apply List.ext_getElem?
     intro i
     by_cases hi : a = i
     ·subst hi; rw [List.getElem?_set_self hal, e1]
     ·rw [List.getElem?_set_ne hi]
    rw [this]; omega
   ·rw [if_neg e, rootsN_set (by rw [ok.len]; omega) (by omega) eM, if_pos (by omega)]; omega
theorem conn_root {l : List (Int × Int)} (hr : In12 l) {u w : Nat} (hu : u < 12) (hw : w < 12) : Conn l u w ↔ rootF (genS l).1 12 u = rootF (genS l).1 12 w := by
 have h := uf l hr
 constructor
 ·intro hc
  have key : ∀ w, Conn l u w → w < 12 → rootF (genS l).1 12 u = rootF (genS l).1 12 w := by
   intro w hc
   induction hc with
   | refl => intro _; rfl
   | step _ hh ih =>
    intro hw
    rename_i b c _
    rcases hh with hh | hh
    ·have := hr _ hh
     rw [ih (by omega)]; simpa using h.all _ hh
    ·have := hr _ hh
     rw [ih (by omega)]; simpa using (h.all _ hh).symm
  exact key w hc hw
 ·intro e
  have h1 := h.sound u hu
  have h2 := h.sound w hw
  rw [e] at h1
  exact h1.trans h2.symm
theorem isRoot_iff {l : List (Int × Int)} (hr : In12 l) {v : Nat} (hv : v < 12) : (genS l).1[v]? = some v ↔ ¬ ∃ u, u < v ∧ Conn l u v := by
 have h := uf l hr
 rw [← root_iff h.ok hv]
 constructor
 ·rintro e ⟨u, hu, hc⟩
  have := (conn_root hr (by omega) hv).1 hc
  have := rootF_le h.ok (n := 12) (v := u) (by omega)
  omega
 ·intro hn
  have hle := rootF_le h.ok (n := 12) hv
  by_cases e : rootF (genS l).1 12 v = v
  ·exact e
  ·exact absurd ⟨_, by omega, (h.sound v hv).symm⟩ hn
def GT (R : List Bool) (u : Nat) : Prop := R.getD u false = true
theorem GT_lt {R : List Bool} {u : Nat} (h : GT R u) : u < R.length := by
 unfold GT at h
 rw [List.getD_eq_getElem?_getD] at h
 by_cases hu : u < R.length
 ·exact hu
 ·rw [List.getElem?_eq_none (by omega)] at h; simp at h
theorem GT_set {R : List Bool} {b u : Nat} (hb : b < R.length) : GT (R.set b true) u ↔ u = b ∨ GT R u := by
 unfold GT
 rw [List.getD_eq_getElem?_getD, List.getD_eq_getElem?_getD]
 by_cases e : b = u
 ·subst e; rw [List.getElem?_set_self hb]; simp
 ·rw [List.getElem?_set_ne e]
  constructor
  ·intro h; exact .inr h
  ·rintro (h | h)
   ·exact absurd h.symm e
   ·exact h
theorem GT_step {es : List E} {a b u : Nat} {R : List Bool} (hb : b < R.length) : GT (rStep es a R b) u ↔ GT R u ∨ (u = b ∧ GT R a ∧ adjB es a b = true) := by
 unfold rStep
 by_cases h : (R.getD a false && adjB es a b) = true
 ·rw [if_pos h, GT_set hb]
  simp only [Bool.and_eq_true] at h
  constructor
  ·rintro (rfl | h2)
   ·exact .inr ⟨rfl, h.1, h.2⟩
   ·exact .inl h2
  ·rintro (h2 | ⟨rfl, _⟩)
   ·exact .inr h2
   ·exact .inl rfl
 ·rw [if_neg h]
  simp only [Bool.and_eq_true, not_and] at h
  constructor
  ·exact .inl
  ·rintro (h2 | ⟨_, h3, h4⟩)
   ·exact h2
   ·exact absurd h4 (h h3)
theorem fold_inv {f : List Bool → Nat → List Bool} (P : Nat → List Bool → Prop) {z : List Bool} (h0 : P 0 z) (k : Nat) (h1 : ∀ i R, i < k → P i R → P (i + 1) (f R i)) : P k ((List.range k).foldl f z) := by
 induction k with
 | zero => exact h0
 | succ k ih => rw [foldl_range_succ]; exact h1 _ _ (by omega) (ih fun i R hi => h1 i R (by omega))
structure Rd (es : List E) (n : Nat) (R S : List Bool) : Prop where
 len : S.length = n
 up : ∀ u, GT R u → GT S u
theorem row_mono {es : List E} {n a : Nat} {R : List Bool} (hl : R.length = n) : Rd es n R (rRow es n a R) ∧ (GT R a → ∀ b, b < n → adjB es a b = true → GT (rRow es n a R) b) := by
 have := fold_inv (f := rStep es a) (P := fun k S => Rd es n R S ∧ (GT R a → ∀ b, b < k → adjB es a b = true → GT S b)) (z := R) ⟨⟨hl, fun u h => h⟩, fun _ b hb => by omega⟩ n (by
  rintro i S hi ⟨⟨h1, h2⟩, h3⟩
  refine ⟨⟨by rw [rStep_len, h1], fun u hu => (GT_step (by omega)).2 (.inl (h2 u hu))⟩, fun ha b hb hab => ?_⟩
  rw [GT_step (by omega)]
  by_cases e : b = i
  ·subst e; exact .inr ⟨rfl, h2 a ha, hab⟩
  ·exact .inl (h3 ha b (by omega) hab))
 exact this
theorem round_mono {es : List E} {n : Nat} {R : List Bool} (hl : R.length = n) : Rd es n R (rRound es n R) ∧ (∀ a, a < n → GT R a → ∀ b, b < n → adjB es a b = true → GT (rRound es n R) b) := by
 have := fold_inv (f := fun R a => rRow es n a R) (P := fun k S => Rd es n R S ∧ (∀ a, a < k → GT R a → ∀ b, b < n → adjB es a b = true → GT S b)) (z := R) ⟨⟨hl, fun u h => h⟩, fun a ha => by omega⟩ n (by
  rintro i S hi ⟨⟨h1, h2⟩, h3⟩
  obtain ⟨⟨q1, q2⟩, q3⟩ := row_mono (es := es) (a := i) h1
  refine ⟨⟨q1, fun u hu => q2 u (h2 u hu)⟩, fun a ha hR b hb hab => ?_⟩
  by_cases e : a = i
  ·subst e; exact q3 (h2 a hR) b hb hab
  ·exact q2 b (h3 a (by omega) hR b hb hab))
 exact this
def ClosedR (es : List E) (n : Nat) (R : List Bool) : Prop := ∀ a, a < n → GT R a → ∀ b, b < n → adjB es a b = true → GT R b
theorem step_same {es : List E} {n a b : Nat} {R : List Bool} (hl : R.length = n) (hb : b < n) (ha : a < n) (h : ClosedR es n R) : rStep es a R b = R := by
 unfold rStep
 by_cases hx : (R.getD a false && adjB es a b) = true
 ·rw [if_pos hx]
  simp only [Bool.and_eq_true] at hx
  have := h a ha hx.1 b hb hx.2
  apply List.ext_getElem?
  intro i
  by_cases e : b = i
  ·subst e
   rw [List.getElem?_set_self (by omega), List.getElem?_eq_getElem (by omega)]
   unfold GT at this
   rw [List.getD_eq_getElem?_getD, List.getElem?_eq_getElem (by omega)] at this
   simpa using this.symm
  ·rw [List.getElem?_set_ne e]
 ·rw [if_neg hx]
theorem round_same {es : List E} {n : Nat} {R : List Bool} (hl : R.length = n) (h : ClosedR es n R) : rRound es n R = R := by
 have := fold_inv (f := fun R a => rRow es n a R) (P := fun k S => S = R) (z := R) rfl n (by
  rintro i S hi rfl
  have := fold_inv (f := rStep es i) (P := fun k T => T = S) (z := S) rfl n (by
   rintro j T hj rfl
   exact step_same hl hj hi h)
  exact this)
 exact this
def cntT : List Bool → Nat
 | [] => 0
 | b :: R => (if b then 1 else 0) + cntT R
theorem cntT_le (R : List Bool) : cntT R ≤ R.length := by
 induction R with
 | nil => exact Nat.le_refl _
 | cons b R ih => simp only [cntT, List.length_cons]; split <;> omega
theorem cntT_mono : ∀ {R S : List Bool}, R.length = S.length → (∀ u, GT R u → GT S u) → cntT R ≤ cntT S ∧ (cntT R = cntT S → R = S)
 | [], [], _, _ => ⟨Nat.le_refl _, fun _ => rfl⟩
 | [], _ :: _, h, _ => by simp at h
 | _ :: _, [], h, _ => by simp at h
 | x :: R, y :: S, h, hu => by
  have h0 := hu 0
  have ih := cntT_mono (R := R) (S := S) (by simpa using h) (fun u hx => by have := hu (u + 1); unfold GT at *; simpa using this (by simpa using hx))
  unfold GT at h0
  simp only [cntT]
  cases x <;> cases y
  ·simp; exact ⟨ih.1, ih.2⟩
  ·simp; omega
  ·simp at h0
  ·simp
   refine ⟨ih.1, fun h => ih.2 (by omega)⟩
theorem adj_ends {g : G} (hc : checkG g = 0) {a b : Nat} : adjB g.es a b = true ↔ (((a : Int), (b : Int)) ∈ endsL g.es ∨ ((b : Int), (a : Int)) ∈ endsL g.es) := by
 obtain ⟨h1, h2, h3⟩ := checkG_zero.1 hc
 unfold adjB
 rw [decide_eq_true_eq, cntL_pos (fun e he => by have := h2 e he; unfold okE at this; omega)]
 have hmem : ∀ e, e ∈ g.es → (e.a, e.b) ∈ endsL g.es := fun e he => by
  have := h2 e he
  unfold okE at this
  exact List.mem_flatMap.2 ⟨e, he, List.mem_replicate.2 ⟨by omega, rfl⟩⟩
 constructor
 ·rintro ⟨e, he, e1, e2⟩
  have := hmem e he
  rw [e1, e2] at this
  rcases Nat.le_total a b with h | h
  ·left; rwa [show min (a : Int) b = a by omega, show max (a : Int) b = b by omega] at this
  ·right; rwa [show min (a : Int) b = b by omega, show max (a : Int) b = a by omega] at this
 ·intro h
  have key : ∀ x y : Int, (x, y) ∈ endsL g.es → ∃ e, e ∈ g.es ∧ e.a = x ∧ e.b = y ∧ x ≤ y := fun x y hxy => by
   obtain ⟨e, he, hx⟩ := endsL_mem hxy
   have := h2 e he
   unfold okE at this
   cases hx
   exact ⟨e, he, rfl, rfl, by omega⟩
  rcases h with h | h
  ·obtain ⟨e, he, h4, h5, h6⟩ := key _ _ h
   exact ⟨e, he, by omega, by omega⟩
  ·obtain ⟨e, he, h4, h5, h6⟩ := key _ _ h
   exact ⟨e, he, by omega, by omega⟩
theorem ends_in {g : G} {n : Nat} (hc : checkG g = 0) (hn : g.n = n) : ∀ p, p ∈ endsL g.es → (0 ≤ p.1 ∧ p.1 < n) ∧ (0 ≤ p.2 ∧ p.2 < n) := fun p hp => by
 have := ends_range hc hp; omega
theorem reach_spec {g : G} {n v : Nat} (hc : checkG g = 0) (hn : g.n = n) (hv : v < n) {u : Nat} (hu : u < n) : GT (reachL g.es n v) u ↔ Conn (endsL g.es) v u := by
 have hlen : ∀ k, (reachN g.es n v k).length = n := reachN_len g.es n v
 have hsucc : ∀ k, reachN g.es n v (k + 1) = rRound g.es n (reachN g.es n v k) := fun k => foldl_range_succ _ _ _
 have hz : ∀ u, GT (reachN g.es n v 0) u ↔ u = v := fun u => by
  show GT ((List.replicate n false).set v true) u ↔ u = v
  rw [GT_set (by simpa using hv)]
  constructor
  ·rintro (h | h)
   ·exact h
   ·exfalso
    have hl := GT_lt h
    unfold GT at h
    rw [List.getD_eq_getElem?_getD, List.getElem?_eq_getElem hl, List.getElem_replicate] at h
    simp at h
  ·exact .inl
 constructor
 ·-- sound
  have hstep : ∀ (R : List Bool) (a b : Nat), R.length = n → b < n → (∀ u, GT R u → Conn (endsL g.es) v u) → ∀ u, GT (rStep g.es a R b) u → Conn (endsL g.es) v u := fun R a b hl hb h u hu => by
   rw [GT_step (by omega)] at hu
   rcases hu with hu | ⟨rfl, ha, hab⟩
   ·exact h u hu
   ·exact .step (h a ha) ((adj_ends hc).1 hab)
  have hall : ∀ k, ∀ u, GT (reachN g.es n v k) u → Conn (endsL g.es) v u := fun k => by
   induction k with
   | zero => intro u hu; rw [(hz u).1 hu]; exact .refl
   | succ k ih =>
    rw [hsucc]
    have := fold_inv (f := fun R a => rRow g.es n a R) (P := fun _ S => S.length = n ∧ ∀ u, GT S u → Conn (endsL g.es) v u) (z := reachN g.es n v k) ⟨hlen k, ih⟩ n (by
     rintro i S hi ⟨h1, h2⟩
     have := fold_inv (f := rStep g.es i) (P := fun _ S => S.length = n ∧ ∀ u, GT S u → Conn (endsL g.es) v u) (z := S) ⟨h1, h2⟩ n (by
      rintro j T hj ⟨h3, h4⟩
      exact ⟨by rw [rStep_len, h3], hstep T i j h3 hj h4⟩)
     exact this)
    exact this.2
  exact hall n u
 ·-- complete
  have hgrow : ∀ k, ClosedR g.es n (reachN g.es n v k) ∨ k + 1 ≤ cntT (reachN g.es n v k) := fun k => by
   induction k with
   | zero =>
    right
    have h1 : GT (reachN g.es n v 0) v := (hz v).2 rfl
    by_cases h0 : cntT (reachN g.es n v 0) = 0
    ·exfalso
     have key : ∀ R : List Bool, cntT R = 0 → ∀ u, ¬ GT R u := by
      intro R
      induction R with
      | nil => intro _ u h; exact absurd (GT_lt h) (by simp)
      | cons b R ih =>
       intro h u hu
       simp only [cntT] at h
       have hb : b = false := by cases b <;> simp at h ⊢
       subst hb
       cases u with
       | zero => unfold GT at hu; simp at hu
       | succ u => exact ih (by simpa using h) u (by unfold GT at *; simpa using hu)
     exact key _ h0 _ h1
    ·omega
   | succ k ih =>
    obtain ⟨⟨q1, q2⟩, q3⟩ := round_mono (es := g.es) (hlen k)
    rw [hsucc]
    by_cases hcl : ClosedR g.es n (reachN g.es n v k)
    ·left; rw [round_same (hlen k) hcl]; exact hcl
    ·right
     have hk : k + 1 ≤ cntT (reachN g.es n v k) := ih.resolve_left hcl
     obtain ⟨c1, c2⟩ := cntT_mono (by rw [hlen k, q1]) q2
     by_cases e : cntT (reachN g.es n v k) = cntT (rRound g.es n (reachN g.es n v k))
     ·exfalso
      refine hcl fun a ha hR b hb hab => ?_
      have := q3 a ha hR b hb hab
      rwa [← c2 e] at this
     ·omega
  have hcl : ClosedR g.es n (reachN g.es n v n) := by
   rcases hgrow n with h | h
   ·exact h
   ·have := cntT_le (reachN g.es n v n); rw [hlen n] at this; omega
  have hvT : ∀ k, GT (reachN g.es n v k) v := fun k => by
   induction k with
   | zero => exact (hz v).2 rfl
   | succ k ih => rw [hsucc]; exact (round_mono (es := g.es) (hlen k)).1.up v ih
  intro hcn
  have key : ∀ w, Conn (endsL g.es) v w → GT (reachN g.es n v n) w := by
   intro w hw
   induction hw with
   | refl => exact hvT n
   | step _ hh ih =>
    rename_i b c _
    have hb : b < n ∧ c < n := by
     rcases hh with hh | hh <;> (have := ends_in hc hn _ hh; simp only at this; omega)
    exact hcl b hb.1 ih c hb.2 ((adj_ends hc).2 hh)
  exact key u hcn
theorem or_spec {R S : List Bool} {n : Nat} (hS : S.length = n) (u : Nat) (hu : u < n) : GT (orK R S n) u ↔ GT S u ∨ GT R u := by
 have := fold_inv (f := orStep R) (P := fun k T => T.length = n ∧ ∀ u, u < n → (GT T u ↔ GT S u ∨ (u < k ∧ GT R u))) (z := S) ⟨hS, fun u _ => by simp⟩ n (by
  rintro i T hi ⟨h1, h2⟩
  refine ⟨by rw [orStep_len, h1], fun u hu => ?_⟩
  unfold orStep
  by_cases e : i = u
  ·subst e
   unfold GT at h2 ⊢
   have h3 := h2 i hu
   rw [List.getD_eq_getElem?_getD, List.getElem?_set_self (by omega), Option.getD_some, Bool.or_eq_true, h3]
   constructor
   ·rintro ((h | h) | h)
    ·exact .inl h
    ·omega
    ·exact .inr ⟨by omega, h⟩
   ·rintro (h | ⟨_, h⟩)
    ·exact .inl (.inl h)
    ·exact .inr h
  ·have h3 := h2 u hu
   unfold GT at h3 ⊢
   rw [List.getD_eq_getElem?_getD, List.getElem?_set_ne e, ← List.getD_eq_getElem?_getD, h3]
   constructor
   ·rintro (h | ⟨h, h'⟩)
    ·exact .inl h
    ·exact .inr ⟨by omega, h'⟩
   ·rintro (h | ⟨h, h'⟩)
    ·exact .inl h
    ·exact .inr ⟨by omega, h'⟩)
 have h3 := this.2 u hu
 unfold orK
 rw [h3]
 constructor
 ·rintro (h | ⟨_, h⟩)
  ·exact .inl h
  ·exact .inr h
 ·rintro (h | h)
  ·exact .inl h
  ·exact .inr ⟨hu, h⟩
theorem seen_spec {g : G} {n : Nat} (hc : checkG g = 0) (hn : g.n = n) : ∀ v, v ≤ n → ∀ u, u < n → (GT (seenN g.es n v) u ↔ ∃ w, w < v ∧ Conn (endsL g.es) w u) := by
 intro v
 induction v with
 | zero =>
  intro _ u hu
  constructor
  ·intro h
   exfalso
   have hl := GT_lt h
   unfold GT at h
   rw [List.getD_eq_getElem?_getD, List.getElem?_eq_getElem hl] at h
   simp [seenN] at h
  ·rintro ⟨w, hw, _⟩; omega
 | succ v ih =>
  intro hv u hu
  have ih := ih (by omega)
  have hS1 : seenN g.es n (v + 1) = seenStep g.es n (seenN g.es n v) v := foldl_range_succ _ _ _
  rw [hS1]
  unfold seenStep
  by_cases h : (seenN g.es n v).getD v false = true
  ·rw [if_pos h, ih u hu]
   obtain ⟨w, hw, hcw⟩ := (ih v (by omega)).1 h
   constructor
   ·rintro ⟨x, hx, h2⟩; exact ⟨x, by omega, h2⟩
   ·rintro ⟨x, hx, h2⟩
    by_cases e : x = v
    ·subst e; exact ⟨w, hw, hcw.trans h2⟩
    ·exact ⟨x, by omega, h2⟩
  ·rw [if_neg h, or_spec (seenN_len g.es n v) u hu, ih u hu, reach_spec hc hn (by omega) hu]
   constructor
   ·rintro (⟨x, hx, h2⟩ | h2)
    ·exact ⟨x, by omega, h2⟩
    ·exact ⟨v, by omega, h2⟩
   ·rintro ⟨x, hx, h2⟩
    by_cases e : x = v
    ·subst e; exact .inr h2
    ·exact .inl ⟨x, by omega, h2⟩
theorem parts_roots {g : G} {n : Nat} (hc : checkG g = 0) (hn : g.n = n) : ∀ v, v ≤ n → (partsN g.es n v : Int) = rootsN (genS (endsL g.es)).1 v := by
 have hn12 := (checkG_zero.1 hc).1
 have hr : In12 (endsL g.es) := fun p hp => by have := ends_in hc hn p hp; omega
 intro v
 induction v with
 | zero => intro _; rfl
 | succ v ih =>
  intro hv
  have ih := ih (by omega)
  have hsp := seen_spec hc hn v (by omega) v (by omega)
  have hrt := isRoot_iff hr (v := v) (by omega)
  simp only [partsN, rootsN]
  unfold GT at hsp
  by_cases h : (seenN g.es n v).getD v false = true
  ·rw [if_pos h, if_neg (fun e => hrt.1 e (hsp.1 h))]; omega
  ·rw [if_neg h, if_pos (hrt.2 fun e => h (hsp.2 e))]; omega
theorem genus_eq {g : G} {n : Nat} (hc : checkG g = 0) (hn : g.n = n) : genL (endsL g.es) = (endsL g.es).length - n + partsN g.es n n := by
 have hn12 := (checkG_zero.1 hc).1
 have hr : In12 (endsL g.es) := fun p hp => by have := ends_in hc hn p hp; omega
 have h := (uf _ hr).cnt
 have hp := parts_roots hc hn n (Nat.le_refl _)
 have hhi : ∀ k, n + k ≤ 12 → rootsN (genS (endsL g.es)).1 (n + k) = rootsN (genS (endsL g.es)).1 n + k := fun k => by
  induction k with
  | zero => intro _; simp
  | succ k ih =>
   intro hk
   have e : (genS (endsL g.es)).1[n + k]? = some (n + k) := (isRoot_iff hr (by omega)).2 fun ⟨u, hu, hcu⟩ => by
    have := hcu.symm.bound (ends_in hc hn) (by omega); omega
   show rootsN _ (n + k + 1) = _
   simp only [rootsN, ih (by omega), if_pos e]; omega
 have h12 := hhi (12 - n) (by omega)
 rw [show n + (12 - n) = 12 by omega] at h12
 unfold genL
 omega
def connB (g : G) : Bool := decide (partsN g.es g.n.toNat g.n.toNat = 1)
def joinedE (g : G) : Int := if checkG g ≠ 0 then checkG g else if connB g = true then 0 else 13
structure ROk (r : R) : Prop where
 c : checkG r.g = 0
 conn : connB r.g = true
 len : (r.ar.length : Int) = r.n
 l : ∀ (i : Nat) l, r.ar[i]? = some l → LOk l (ownL (endsL r.es) (i : Int) (2 * (endsL r.es).length))
section
variable {r : R}
end
section
variable {P : Program} {rd : Option Nat} {h : Nat} {Q : Exit → St → Prop} {c : Code} {tm : List AVal}
end
def tabF (n : Nat) (g : Nat → Nat → Int) : List (List Int) := (List.range n).map fun a => (List.range n).map fun b => g a b
theorem tabF_sq (n : Nat) (g : Nat → Nat → Int) : Sq n (tabF n g) := ⟨by simp [tabF], fun r hr => by obtain ⟨a, _, rfl⟩ := List.mem_map.1 hr; simp⟩
@[simp] theorem tabF_take (n : Nat) (g : Nat → Nat → Int) : (tabF n g).take n = tabF n g := List.take_of_length_le (by rw [(tabF_sq n g).len]; exact Nat.le_refl _)
@[simp] theorem tab_take (n : Nat) (g : Nat → Nat → Int) : ((tabF n g).map rowB).take n = (tabF n g).map rowB := List.take_of_length_le (by rw [List.length_map, (tabF_sq n g).len]; exact Nat.le_refl _)
theorem stX_in {n q m : Nat} {es : List E} (hm : 4 ≤ m) : blkIn m (.roC [.tree (.int .i64 (n : Int)), .tree (.slice (eRows es)), .tree (.int .i64 (q : Int)), .ref 2 1 0 n n, .ref 3 1 0 n n, .tree (.int .i64 0)]) := by
 intro c hc
 simp only [List.mem_cons, List.not_mem_nil, or_false] at hc
 rcases hc with rfl | rfl | rfl | rfl | rfl | rfl <;> first | exact True.intro | (show _ < _; omega)
theorem bC_inS {m : Nat} {F : List Bool} : Go.Sp.cellsIn m (bC F) := cellsIn_map fun _ => True.intro
theorem iC_ne {d : List Int} (h : d ≠ []) : iC d ≠ [] := by cases d <;> simp_all [iC]
theorem bC_ne {d : List Bool} (h : d ≠ []) : bC d ≠ [] := by cases d <;> simp_all [bC]
theorem itemsK_ps {l : List (Int × Int)} {n : Nat} (hn : n = 2) (k : Nat) (ts : List TVal) (h : (itemsK l)[k]? = some ts) : ts.length = n := by
 obtain ⟨p, _, rfl⟩ := itemsK_inv h; exact hn.symm
theorem lnk_mem {es : List E} {v : Int} {x : Int × Int} (h : x ∈ lnkL es v) : ∃ e, e ∈ es ∧ x.2 = e.m ∧ e.a ≠ e.b ∧ ((e.a = v ∧ x.1 = e.b) ∨ (e.b = v ∧ x.1 = e.a)) := by
 unfold lnkL at h
 obtain ⟨e, he, h⟩ := List.mem_filterMap.1 h
 unfold lnkE at h
 split at h
 ·rename_i hc
  cases h
  refine ⟨e, he, rfl, hc.1, ?_⟩
  rcases hc.2 with q | q
  ·exact .inl ⟨q, by simp only; omega⟩
  ·exact .inr ⟨q, by simp only; omega⟩
 ·cases h
theorem lnkL_len (es : List E) (v : Int) : (lnkL es v).length ≤ es.length := List.length_filterMap_le _ _
theorem stB_in (n q : Nat) (es : List E) (d s : List Int) (R : List Bool) : blksIn 7 [.box [.int .i64 (n : Int), .slice (eRows es) .none], .ro [.int .i64 (n : Int), .slice (eRows es)], .box (iC d), .box (iC s), .roC [.tree (.int .i64 (n : Int)), .tree (.slice (eRows es)), .tree (.int .i64 (q : Int)), .ref 2 1 0 n n, .ref 3 1 0 n n, .tree (.int .i64 0)], .box (bC R), .box [.ref 5 1 0 n n]] := by
 have hg : blkIn 7 (.box [.int .i64 (n : Int), .slice (eRows es) .none]) := by intro c hc; simp only [List.mem_cons, List.not_mem_nil, or_false] at hc; rcases hc with rfl | rfl <;> exact True.intro
 exact blksIn_cons hg (blksIn_cons True.intro (blksIn_cons iC_in (blksIn_cons iC_in (blksIn_cons (stX_in (by decide)) (blksIn_cons (bC_inS (F := R)) (blksIn_cons (cellsIn_cons (show 5 < 7 by decide) (cellsIn_nil _)) (blksIn_nil _)))))))
theorem stD_in (n q : Nat) (es : List E) (d s : List Int) (R : List Bool) : blksIn 6 [.box [.int .i64 (n : Int), .slice (eRows es) .none], .ro [.int .i64 (n : Int), .slice (eRows es)], .box (iC d), .box (iC s), .roC [.tree (.int .i64 (n : Int)), .tree (.slice (eRows es)), .tree (.int .i64 (q : Int)), .ref 2 1 0 n n, .ref 3 1 0 n n, .tree (.int .i64 0)], .box [.slice (bRows R) .none]] := by
 have hg : blkIn 6 (.box [.int .i64 (n : Int), .slice (eRows es) .none]) := by intro c hc; simp only [List.mem_cons, List.not_mem_nil, or_false] at hc; rcases hc with rfl | rfl <;> exact True.intro
 exact blksIn_cons hg (blksIn_cons True.intro (blksIn_cons iC_in (blksIn_cons iC_in (blksIn_cons (stX_in (by decide)) (blksIn_cons (cellsIn_cons True.intro (cellsIn_nil _)) (blksIn_nil _))))))
def joinL (p : Int → Bool) (l : List (Int × Int)) : Int := l.foldl (fun a x => if p x.1 = true then a + x.2 else a) 0
theorem joinL_snoc (p : Int → Bool) (l : List (Int × Int)) (x : Int × Int) : joinL p (l ++ [x]) = if p x.1 = true then joinL p l + x.2 else joinL p l := by simp [joinL]
theorem joinL_bound (p : Int → Bool) {l : List (Int × Int)} (h : ∀ x, x ∈ l → 0 ≤ x.2 ∧ x.2 ≤ 50) : 0 ≤ joinL p l ∧ joinL p l ≤ 50 * l.length := by
 revert h
 refine snoc_ind (P := fun l => (∀ x, x ∈ l → 0 ≤ x.2 ∧ x.2 ≤ 50) → 0 ≤ joinL p l ∧ joinL p l ≤ 50 * l.length) ?_ ?_ l
 ·intro _; exact ⟨Int.le_refl _, Int.le_refl _⟩
 ·intro l x ih h
  have := ih fun y hy => h y (by simp [hy])
  have := h x (by simp)
  rw [joinL_snoc, List.length_append, List.length_singleton]
  split <;> omega
theorem links_h {H : List Blk} (n q : Nat) (es : List E) (v : Int) (h4 : H[4]? = some (.roC [.tree (.int .i64 (n : Int)), .tree (.slice (eRows es)), .tree (.int .i64 (q : Int)), .ref 2 1 0 n n, .ref 3 1 0 n n, .tree (.int .i64 0)])) :
  ACallH Try.prog 122 H [.c (.ptr 4 0), .c (.int .i64 v)] H (ofT (.t (.fn 126 [.rptr [.rptr [.int .i64 n, .slice (eRows es)]], .rptr [.int .i64 v]]))) := by
 refine ACall.hC (links_ok n es v) rfl (fun ι σ w hH j x t u h1 h2 h3 => ?_)
 match j, h1, h2 with
 | 0, h1, h2 =>
  simp at h1 h2; subst h1; subst h2
  exact roC_rptr hH h4 rfl h3
 | 1, h1, h2 =>
  simp at h1 h2; subst h1; subst h2
  cases h3; exact .int _ _
 | j + 2, h1, h2 => simp at h1
theorem joinsB_raw (n q : Nat) (es : List E) (d s : List Int) (R : List Bool) (hd : d ≠ []) (hs : s ≠ []) (hR : R ≠ []) (hl : es.length < 2 ^ 20) (hm : ∀ e, e ∈ es → (0 ≤ e.a ∧ e.a < 2 ^ 40) ∧ (0 ≤ e.b ∧ e.b < 2 ^ 40) ∧ 0 ≤ e.m ∧ e.m ≤ 50) (v : Int) (hv : 0 ≤ v ∧ v < 2 ^ 40) (f : FuncId) (p : Int → Bool)
  (hp : ∀ (B : List Blk) u k, (u, k) ∈ lnkL es v → ACallH Try.prog f ([.box [.int .i64 (n : Int), .slice (eRows es) .none], .ro [.int .i64 (n : Int), .slice (eRows es)], .box (iC d), .box (iC s), .roC [.tree (.int .i64 (n : Int)), .tree (.slice (eRows es)), .tree (.int .i64 (q : Int)), .ref 2 1 0 n n, .ref 3 1 0 n n, .tree (.int .i64 0)], .box (bC R), .box [.ref 5 1 0 n n]] ++ B) [.c (.int .i64 u), .c (.ptr 6 0)] ([.box [.int .i64 (n : Int), .slice (eRows es) .none], .ro [.int .i64 (n : Int), .slice (eRows es)], .box (iC d), .box (iC s), .roC [.tree (.int .i64 (n : Int)), .tree (.slice (eRows es)), .tree (.int .i64 (q : Int)), .ref 2 1 0 n n, .ref 3 1 0 n n, .tree (.int .i64 0)], .box (bC R), .box [.ref 5 1 0 n n]] ++ B) (.c (.bool (p u)))) :
  ACallH Try.prog 108 [.box [.int .i64 (n : Int), .slice (eRows es) .none], .ro [.int .i64 (n : Int), .slice (eRows es)], .box (iC d), .box (iC s), .roC [.tree (.int .i64 (n : Int)), .tree (.slice (eRows es)), .tree (.int .i64 (q : Int)), .ref 2 1 0 n n, .ref 3 1 0 n n, .tree (.int .i64 0)], .box (bC R), .box [.ref 5 1 0 n n]] [.c (.ptr 4 0), .c (.int .i64 v), .c (.fn f [.ptr 6 0])] ([.box [.int .i64 (n : Int), .slice (eRows es) .none], .ro [.int .i64 (n : Int), .slice (eRows es)], .box (iC d), .box (iC s), .roC [.tree (.int .i64 (n : Int)), .tree (.slice (eRows es)), .tree (.int .i64 (q : Int)), .ref 2 1 0 n n, .ref 3 1 0 n n, .tree (.int .i64 0)], .box (bC R), .box [.ref 5 1 0 n n]] ++ [.box [.fn f [.ptr 6 0]], .box [.int .i64 (joinL p (lnkL es v))]]) (.c (.int .i64 (joinL p (lnkL es v)))) := by
 have hI := links1_ok n es v (by omega) (fun e he => by have := hm e he; exact ⟨this.1, this.2.1⟩) hv
 have hlk := fun H h4 => links_h (H := H) n q es v h4
 have hdn := iC_ne hd
 have hsn := iC_ne hs
 have hRn := bC_ne hR
 have hkb : ∀ x, x ∈ lnkL es v → 0 ≤ x.2 ∧ x.2 ≤ 50 := fun x hx => by
  obtain ⟨e, he, h1, _⟩ := lnk_mem hx
  have := hm e he; rw [h1]; exact this.2.2
 have hll : (lnkL es v).length < 2 ^ 20 := by have := lnkL_len es v; omega
 simp only [List.cons_append, List.nil_append] at hp ⊢
 refine ACallH.of_body Try.func108 rfl (by kernel_rfl) ?_
 simp only [entry, Try.ntmps108, List.length_cons, List.length_nil, Nat.reduceAdd, Nat.reduceSub, List.replicate_succ, List.replicate_zero, List.cons_append, List.nil_append]
 repeat' (first|((first|(refine zT ?_;intro K' hK')|(refine zG ?_ ?_<;>(try refine zH ?_)<;>intro hguard<;>(try exact zX)<;>try intro K' hK'))<;>((try simp +contextual only [go_sem, ofT, ofT1, ofTree, List.map_cons, List.map_nil]);(repeat' first|(with_reducible refine hK' _ _ ?_;clear hK' K')|((with_reducible first|refine ⟨_,_,hlk _ rfl,?_⟩|refine ⟨_,hlk _ rfl,?_⟩);try simp +contextual only [go_sem, ofT, ofT1, ofTree, List.map_cons, List.map_nil])|exact zY|with_reducible refine And.intro ?_ ?_|(with_reducible intro hpath;try exact zP)|(refine hK' _ _ ?_;clear hK' K')|fail);try refine zS ?_))|(refine zE ?_;refine hK _ _ ?_;clear hK K)|(refine zN ?_;try refine zS ?_)|refine zA ?_|(refine zB ?_;intro K hK)|(refine zC ?_ ?_<;>(try refine zH ?_)<;>intro hcond<;>try exact zX)|fail)
 refine AWp.weak (Weak.head (m := 9) (by omega) ((fun t f => [f, f, f, f, f, t, f, t, f, f, f, f, t, f, f, f, f, f, f, f, f, f]) true false) (by first | rfl | simp [mask]) (by first | rfl | simp) (by (repeat' (first | exact valsIn_nil _ | refine valsIn_cons ?_ ?_ | refine cellsIn_cons ?_ ?_ | exact cellsIn_nil _ | exact True.intro | (show _ < _; omega) | (intro c hc; cases hc; done) | (intro c hc; simp only [List.mem_cons, List.not_mem_nil, or_false] at hc; subst hc; first | exact True.intro | (show _ < _; omega)) | (intro c hc; simp only [List.mem_cons, List.not_mem_nil, or_false] at hc; rcases hc with rfl | rfl <;> first | exact True.intro | (show _ < _; omega))))) (by (repeat' (first | exact valsIn_nil _ | exact blksIn_nil _ | exact cellsIn_nil _ | refine And.intro ?_ ?_ | refine valsIn_cons ?_ ?_ | refine blksIn_cons ?_ ?_ | refine cellsIn_cons ?_ ?_ | exact True.intro | exact iC_in | exact bC_inS | exact stX_in (by omega) | (show _ < _; omega) | exact cellsIn_map (fun _ => True.intro) | (intro c hc; cases hc; done) | (intro c hc; simp only [List.mem_cons, List.not_mem_nil, or_false] at hc; subst hc; first | exact True.intro | exact iC_in | exact bC_inS | exact stX_in (by omega) | (show _ < _; omega)) | (intro c hc; simp only [List.mem_cons, List.not_mem_nil, or_false] at hc; rcases hc with rfl | rfl <;> first | exact True.intro | exact iC_in | exact bC_inS | exact stX_in (by omega) | (show _ < _; omega)))))) (AWp.rangeFunc (fun k H => H = [.box [.int .i64 (n : Int), .slice (eRows es) .none], .ro [.int .i64 (n : Int), .slice (eRows es)], .box (iC d), .box (iC s), .roC [.tree (.int .i64 (n : Int)), .tree (.slice (eRows es)), .tree (.int .i64 (q : Int)), .ref 2 1 0 n n, .ref 3 1 0 n n, .tree (.int .i64 0)], .box (bC R), .box [.ref 5 1 0 n n], .box [.fn f [.ptr 6 0]], .box [.int .i64 (joinL p ((lnkL es v).take k))]] ∧ (True)) (fun _ _ => False) 9 rfl (hI) (itemsK_ps rfl) (by omega) (by (repeat' (first | exact valsIn_nil _ | refine valsIn_cons ?_ ?_ | refine cellsIn_cons ?_ ?_ | exact cellsIn_nil _ | exact True.intro | (show _ < _; omega) | (intro c hc; cases hc; done) | (intro c hc; simp only [List.mem_cons, List.not_mem_nil, or_false] at hc; subst hc; first | exact True.intro | (show _ < _; omega)) | (intro c hc; simp only [List.mem_cons, List.not_mem_nil, or_false] at hc; rcases hc with rfl | rfl <;> first | exact True.intro | (show _ < _; omega))))) (by rintro _ _ ⟨rfl, -⟩; simp [hdn, hsn, hRn]) (fun _ _ h => h.elim) ?_ (fun l k ts H hts hI => ?_) (fun H hI => ?_) (fun e H h => h.elim))
 ·exact ⟨rfl, trivial⟩
 ·obtain ⟨rfl, -⟩ := hI
  obtain ⟨x, hx, rfl⟩ := itemsK_inv hts
  have hk : k < (lnkL es v).length := (List.getElem?_eq_some_iff.1 hx).1
  have hxm := List.mem_of_getElem? hx
  have hkx := hkb x hxm
  have hnx := joinL_snoc p ((lnkL es v).take k) x
  rw [← take_snoc hx] at hnx
  have hb := joinL_bound p (l := (lnkL es v).take k) (fun y hy => hkb y (List.mem_of_mem_take hy))
  rw [List.length_take] at hb
  have hpx := hp [.box [.fn f [.ptr 6 0]], .box [.int .i64 (joinL p ((lnkL es v).take k))]] x.1 x.2 hxm
  generalize joinL p ((lnkL es v).take k) = a at *
  generalize hnk : joinL p ((lnkL es v).take (k + 1)) = a2 at *
  obtain ⟨u, m⟩ := x
  simp only at hpx hnx hkx ⊢
  simp only [mask, setPs, List.zip_cons_cons, List.zip_nil_right, List.zip_nil_left, List.foldl_cons, List.foldl_nil, List.set_cons_succ, List.set_cons_zero, ofT, ofT1, ofTree, List.map_cons, List.map_nil, ofT, ofT1, toT, toT1, toTree0, tint, tbool, tpair, tG, tpairs, tints, tbools]
  cases hb2 : p u with
  | true =>
   rw [hb2] at hpx
   rw [hb2, if_pos rfl] at hnx
   refine zJ trivial trivial trivial (zc hpx trivial) trivial ?_
   refine ⟨⟨_, _⟩, Weak.head2 (m := 9) (by decide) ((fun t f => [f, f, f, f, f, f, f, f, f, f, f, f, f, f, f, f, f, f, f, f, f, f]) true false) rfl rfl (zV3 @iC_in @bC_inS @stX_in), ?_, ?_⟩
   ·rw [hnk, hnx]; rfl
   ·trivial
  | false =>
   rw [hb2] at hpx
   rw [hb2, if_neg (by simp)] at hnx
   refine zJ trivial trivial trivial (zc hpx trivial) trivial ?_
   refine ⟨⟨_, _⟩, Weak.head2 (m := 9) (by decide) ((fun t f => [f, f, f, f, f, f, f, f, f, f, f, f, f, f, f, f, f, f, f, f, f, f]) true false) rfl rfl (zV3 @iC_in @bC_inS @stX_in), ?_, ?_⟩
   ·rw [hnk, hnx]; rfl
   ·trivial
 ·obtain ⟨rfl, -⟩ := hI
  rw [itemsK_len, List.take_length]
  simp only [mask]
  refine zR trivial trivial trivial ?_
  simp [RetsH, aretH, ares, noTup, Try.results108]
theorem joinsB_ok (n q : Nat) (es : List E) (d s : List Int) (R : List Bool) (hd : d ≠ []) (hs : s ≠ []) (hR : R ≠ []) (hl : es.length < 2 ^ 20) (hm : ∀ e, e ∈ es → (0 ≤ e.a ∧ e.a < 2 ^ 40) ∧ (0 ≤ e.b ∧ e.b < 2 ^ 40) ∧ 0 ≤ e.m ∧ e.m ≤ 50) (v : Int) (hv : 0 ≤ v ∧ v < 2 ^ 40) (f : FuncId) (p : Int → Bool)
  (hp : ∀ (B : List Blk) u k, (u, k) ∈ lnkL es v → ACallH Try.prog f ([.box [.int .i64 (n : Int), .slice (eRows es) .none], .ro [.int .i64 (n : Int), .slice (eRows es)], .box (iC d), .box (iC s), .roC [.tree (.int .i64 (n : Int)), .tree (.slice (eRows es)), .tree (.int .i64 (q : Int)), .ref 2 1 0 n n, .ref 3 1 0 n n, .tree (.int .i64 0)], .box (bC R), .box [.ref 5 1 0 n n]] ++ B) [.c (.int .i64 u), .c (.ptr 6 0)] ([.box [.int .i64 (n : Int), .slice (eRows es) .none], .ro [.int .i64 (n : Int), .slice (eRows es)], .box (iC d), .box (iC s), .roC [.tree (.int .i64 (n : Int)), .tree (.slice (eRows es)), .tree (.int .i64 (q : Int)), .ref 2 1 0 n n, .ref 3 1 0 n n, .tree (.int .i64 0)], .box (bC R), .box [.ref 5 1 0 n n]] ++ B) (.c (.bool (p u)))) :
  ACallH Try.prog 108 [.box [.int .i64 (n : Int), .slice (eRows es) .none], .ro [.int .i64 (n : Int), .slice (eRows es)], .box (iC d), .box (iC s), .roC [.tree (.int .i64 (n : Int)), .tree (.slice (eRows es)), .tree (.int .i64 (q : Int)), .ref 2 1 0 n n, .ref 3 1 0 n n, .tree (.int .i64 0)], .box (bC R), .box [.ref 5 1 0 n n]] [.c (.ptr 4 0), .c (.int .i64 v), .c (.fn f [.ptr 6 0])] [.box [.int .i64 (n : Int), .slice (eRows es) .none], .ro [.int .i64 (n : Int), .slice (eRows es)], .box (iC d), .box (iC s), .roC [.tree (.int .i64 (n : Int)), .tree (.slice (eRows es)), .tree (.int .i64 (q : Int)), .ref 2 1 0 n n, .ref 3 1 0 n n, .tree (.int .i64 0)], .box (bC R), .box [.ref 5 1 0 n n]] (.c (.int .i64 (joinL p (lnkL es v)))) :=
 (joinsB_raw n q es d s R hd hs hR hl hm v hv f p hp).trim (Nat.le_refl _) True.intro (stB_in n q es d s R)
theorem joinsD_raw (n q : Nat) (es : List E) (d s : List Int) (R : List Bool) (hd : d ≠ []) (hs : s ≠ []) (hR : R ≠ []) (hl : es.length < 2 ^ 20) (hm : ∀ e, e ∈ es → (0 ≤ e.a ∧ e.a < 2 ^ 40) ∧ (0 ≤ e.b ∧ e.b < 2 ^ 40) ∧ 0 ≤ e.m ∧ e.m ≤ 50) (v : Int) (hv : 0 ≤ v ∧ v < 2 ^ 40) (f : FuncId) (p : Int → Bool)
  (hp : ∀ (B : List Blk) u k, (u, k) ∈ lnkL es v → ACallH Try.prog f ([.box [.int .i64 (n : Int), .slice (eRows es) .none], .ro [.int .i64 (n : Int), .slice (eRows es)], .box (iC d), .box (iC s), .roC [.tree (.int .i64 (n : Int)), .tree (.slice (eRows es)), .tree (.int .i64 (q : Int)), .ref 2 1 0 n n, .ref 3 1 0 n n, .tree (.int .i64 0)], .box [.slice (bRows R) .none]] ++ B) [.c (.int .i64 u), .c (.ptr 5 0)] ([.box [.int .i64 (n : Int), .slice (eRows es) .none], .ro [.int .i64 (n : Int), .slice (eRows es)], .box (iC d), .box (iC s), .roC [.tree (.int .i64 (n : Int)), .tree (.slice (eRows es)), .tree (.int .i64 (q : Int)), .ref 2 1 0 n n, .ref 3 1 0 n n, .tree (.int .i64 0)], .box [.slice (bRows R) .none]] ++ B) (.c (.bool (p u)))) :
  ACallH Try.prog 108 [.box [.int .i64 (n : Int), .slice (eRows es) .none], .ro [.int .i64 (n : Int), .slice (eRows es)], .box (iC d), .box (iC s), .roC [.tree (.int .i64 (n : Int)), .tree (.slice (eRows es)), .tree (.int .i64 (q : Int)), .ref 2 1 0 n n, .ref 3 1 0 n n, .tree (.int .i64 0)], .box [.slice (bRows R) .none]] [.c (.ptr 4 0), .c (.int .i64 v), .c (.fn f [.ptr 5 0])] ([.box [.int .i64 (n : Int), .slice (eRows es) .none], .ro [.int .i64 (n : Int), .slice (eRows es)], .box (iC d), .box (iC s), .roC [.tree (.int .i64 (n : Int)), .tree (.slice (eRows es)), .tree (.int .i64 (q : Int)), .ref 2 1 0 n n, .ref 3 1 0 n n, .tree (.int .i64 0)], .box [.slice (bRows R) .none]] ++ [.box [.fn f [.ptr 5 0]], .box [.int .i64 (joinL p (lnkL es v))]]) (.c (.int .i64 (joinL p (lnkL es v)))) := by
 have hI := links1_ok n es v (by omega) (fun e he => by have := hm e he; exact ⟨this.1, this.2.1⟩) hv
 have hlk := fun H h4 => links_h (H := H) n q es v h4
 have hdn := iC_ne hd
 have hsn := iC_ne hs
 have hRn := bC_ne hR
 have hkb : ∀ x, x ∈ lnkL es v → 0 ≤ x.2 ∧ x.2 ≤ 50 := fun x hx => by
  obtain ⟨e, he, h1, _⟩ := lnk_mem hx
  have := hm e he; rw [h1]; exact this.2.2
 have hll : (lnkL es v).length < 2 ^ 20 := by have := lnkL_len es v; omega
 simp only [List.cons_append, List.nil_append] at hp ⊢
 refine ACallH.of_body Try.func108 rfl (by kernel_rfl) ?_
 simp only [entry, Try.ntmps108, List.length_cons, List.length_nil, Nat.reduceAdd, Nat.reduceSub, List.replicate_succ, List.replicate_zero, List.cons_append, List.nil_append]
 repeat' (first|((first|(refine zT ?_;intro K' hK')|(refine zG ?_ ?_<;>(try refine zH ?_)<;>intro hguard<;>(try exact zX)<;>try intro K' hK'))<;>((try simp +contextual only [go_sem, ofT, ofT1, ofTree, List.map_cons, List.map_nil]);(repeat' first|(with_reducible refine hK' _ _ ?_;clear hK' K')|((with_reducible first|refine ⟨_,_,hlk _ rfl,?_⟩|refine ⟨_,hlk _ rfl,?_⟩);try simp +contextual only [go_sem, ofT, ofT1, ofTree, List.map_cons, List.map_nil])|exact zY|with_reducible refine And.intro ?_ ?_|(with_reducible intro hpath;try exact zP)|(refine hK' _ _ ?_;clear hK' K')|fail);try refine zS ?_))|(refine zE ?_;refine hK _ _ ?_;clear hK K)|(refine zN ?_;try refine zS ?_)|refine zA ?_|(refine zB ?_;intro K hK)|(refine zC ?_ ?_<;>(try refine zH ?_)<;>intro hcond<;>try exact zX)|fail)
 refine AWp.weak (Weak.head (m := 8) (by omega) ((fun t f => [f, f, f, f, f, t, f, t, f, f, f, f, t, f, f, f, f, f, f, f, f, f]) true false) (by first | rfl | simp [mask]) (by first | rfl | simp) (by (repeat' (first | exact valsIn_nil _ | refine valsIn_cons ?_ ?_ | refine cellsIn_cons ?_ ?_ | exact cellsIn_nil _ | exact True.intro | (show _ < _; omega) | (intro c hc; cases hc; done) | (intro c hc; simp only [List.mem_cons, List.not_mem_nil, or_false] at hc; subst hc; first | exact True.intro | (show _ < _; omega)) | (intro c hc; simp only [List.mem_cons, List.not_mem_nil, or_false] at hc; rcases hc with rfl | rfl <;> first | exact True.intro | (show _ < _; omega))))) (by (repeat' (first | exact valsIn_nil _ | exact blksIn_nil _ | exact cellsIn_nil _ | refine And.intro ?_ ?_ | refine valsIn_cons ?_ ?_ | refine blksIn_cons ?_ ?_ | refine cellsIn_cons ?_ ?_ | exact True.intro | exact iC_in | exact bC_inS | exact stX_in (by omega) | (show _ < _; omega) | exact cellsIn_map (fun _ => True.intro) | (intro c hc; cases hc; done) | (intro c hc; simp only [List.mem_cons, List.not_mem_nil, or_false] at hc; subst hc; first | exact True.intro | exact iC_in | exact bC_inS | exact stX_in (by omega) | (show _ < _; omega)) | (intro c hc; simp only [List.mem_cons, List.not_mem_nil, or_false] at hc; rcases hc with rfl | rfl <;> first | exact True.intro | exact iC_in | exact bC_inS | exact stX_in (by omega) | (show _ < _; omega)))))) (AWp.rangeFunc (fun k H => H = [.box [.int .i64 (n : Int), .slice (eRows es) .none], .ro [.int .i64 (n : Int), .slice (eRows es)], .box (iC d), .box (iC s), .roC [.tree (.int .i64 (n : Int)), .tree (.slice (eRows es)), .tree (.int .i64 (q : Int)), .ref 2 1 0 n n, .ref 3 1 0 n n, .tree (.int .i64 0)], .box [.slice (bRows R) .none], .box [.fn f [.ptr 5 0]], .box [.int .i64 (joinL p ((lnkL es v).take k))]] ∧ (True)) (fun _ _ => False) 8 rfl (hI) (itemsK_ps rfl) (by omega) (by (repeat' (first | exact valsIn_nil _ | refine valsIn_cons ?_ ?_ | refine cellsIn_cons ?_ ?_ | exact cellsIn_nil _ | exact True.intro | (show _ < _; omega) | (intro c hc; cases hc; done) | (intro c hc; simp only [List.mem_cons, List.not_mem_nil, or_false] at hc; subst hc; first | exact True.intro | (show _ < _; omega)) | (intro c hc; simp only [List.mem_cons, List.not_mem_nil, or_false] at hc; rcases hc with rfl | rfl <;> first | exact True.intro | (show _ < _; omega))))) (by rintro _ _ ⟨rfl, -⟩; simp [hdn, hsn, hRn]) (fun _ _ h => h.elim) ?_ (fun l k ts H hts hI => ?_) (fun H hI => ?_) (fun e H h => h.elim))
 ·exact ⟨rfl, trivial⟩
 ·obtain ⟨rfl, -⟩ := hI
  obtain ⟨x, hx, rfl⟩ := itemsK_inv hts
  have hk : k < (lnkL es v).length := (List.getElem?_eq_some_iff.1 hx).1
  have hxm := List.mem_of_getElem? hx
  have hkx := hkb x hxm
  have hnx := joinL_snoc p ((lnkL es v).take k) x
  rw [← take_snoc hx] at hnx
  have hb := joinL_bound p (l := (lnkL es v).take k) (fun y hy => hkb y (List.mem_of_mem_take hy))
  rw [List.length_take] at hb
  have hpx := hp [.box [.fn f [.ptr 5 0]], .box [.int .i64 (joinL p ((lnkL es v).take k))]] x.1 x.2 hxm
  generalize joinL p ((lnkL es v).take k) = a at *
  generalize hnk : joinL p ((lnkL es v).take (k + 1)) = a2 at *
  obtain ⟨u, m⟩ := x
  simp only at hpx hnx hkx ⊢
  simp only [mask, setPs, List.zip_cons_cons, List.zip_nil_right, List.zip_nil_left, List.foldl_cons, List.foldl_nil, List.set_cons_succ, List.set_cons_zero, ofT, ofT1, ofTree, List.map_cons, List.map_nil, ofT, ofT1, toT, toT1, toTree0, tint, tbool, tpair, tG, tpairs, tints, tbools]
  cases hb2 : p u with
  | true =>
   rw [hb2] at hpx
   rw [hb2, if_pos rfl] at hnx
   refine zJ trivial trivial trivial (zc hpx trivial) trivial ?_
   refine ⟨⟨_, _⟩, Weak.head2 (m := 8) (by decide) ((fun t f => [f, f, f, f, f, f, f, f, f, f, f, f, f, f, f, f, f, f, f, f, f, f]) true false) rfl rfl (zV3 @iC_in @bC_inS @stX_in), ?_, ?_⟩
   ·rw [hnk, hnx]; rfl
   ·trivial
  | false =>
   rw [hb2] at hpx
   rw [hb2, if_neg (by simp)] at hnx
   refine zJ trivial trivial trivial (zc hpx trivial) trivial ?_
   refine ⟨⟨_, _⟩, Weak.head2 (m := 8) (by decide) ((fun t f => [f, f, f, f, f, f, f, f, f, f, f, f, f, f, f, f, f, f, f, f, f, f]) true false) rfl rfl (zV3 @iC_in @bC_inS @stX_in), ?_, ?_⟩
   ·rw [hnk, hnx]; rfl
   ·trivial
 ·obtain ⟨rfl, -⟩ := hI
  rw [itemsK_len, List.take_length]
  simp only [mask]
  refine zR trivial trivial trivial ?_
  simp [RetsH, aretH, ares, noTup, Try.results108]
theorem joinsD_ok (n q : Nat) (es : List E) (d s : List Int) (R : List Bool) (hd : d ≠ []) (hs : s ≠ []) (hR : R ≠ []) (hl : es.length < 2 ^ 20) (hm : ∀ e, e ∈ es → (0 ≤ e.a ∧ e.a < 2 ^ 40) ∧ (0 ≤ e.b ∧ e.b < 2 ^ 40) ∧ 0 ≤ e.m ∧ e.m ≤ 50) (v : Int) (hv : 0 ≤ v ∧ v < 2 ^ 40) (f : FuncId) (p : Int → Bool)
  (hp : ∀ (B : List Blk) u k, (u, k) ∈ lnkL es v → ACallH Try.prog f ([.box [.int .i64 (n : Int), .slice (eRows es) .none], .ro [.int .i64 (n : Int), .slice (eRows es)], .box (iC d), .box (iC s), .roC [.tree (.int .i64 (n : Int)), .tree (.slice (eRows es)), .tree (.int .i64 (q : Int)), .ref 2 1 0 n n, .ref 3 1 0 n n, .tree (.int .i64 0)], .box [.slice (bRows R) .none]] ++ B) [.c (.int .i64 u), .c (.ptr 5 0)] ([.box [.int .i64 (n : Int), .slice (eRows es) .none], .ro [.int .i64 (n : Int), .slice (eRows es)], .box (iC d), .box (iC s), .roC [.tree (.int .i64 (n : Int)), .tree (.slice (eRows es)), .tree (.int .i64 (q : Int)), .ref 2 1 0 n n, .ref 3 1 0 n n, .tree (.int .i64 0)], .box [.slice (bRows R) .none]] ++ B) (.c (.bool (p u)))) :
  ACallH Try.prog 108 [.box [.int .i64 (n : Int), .slice (eRows es) .none], .ro [.int .i64 (n : Int), .slice (eRows es)], .box (iC d), .box (iC s), .roC [.tree (.int .i64 (n : Int)), .tree (.slice (eRows es)), .tree (.int .i64 (q : Int)), .ref 2 1 0 n n, .ref 3 1 0 n n, .tree (.int .i64 0)], .box [.slice (bRows R) .none]] [.c (.ptr 4 0), .c (.int .i64 v), .c (.fn f [.ptr 5 0])] [.box [.int .i64 (n : Int), .slice (eRows es) .none], .ro [.int .i64 (n : Int), .slice (eRows es)], .box (iC d), .box (iC s), .roC [.tree (.int .i64 (n : Int)), .tree (.slice (eRows es)), .tree (.int .i64 (q : Int)), .ref 2 1 0 n n, .ref 3 1 0 n n, .tree (.int .i64 0)], .box [.slice (bRows R) .none]] (.c (.int .i64 (joinL p (lnkL es v)))) :=
 (joinsD_raw n q es d s R hd hs hR hl hm v hv f p hp).trim (Nat.le_refl _) True.intro (stD_in n q es d s R)
def rootsL (F : List Nat) (v : Nat) : List Nat := (List.range v).filter fun u => decide (rootF F 12 u = u)
def partV (F : List Nat) (v r : Nat) : List Int := ((List.range v).filter fun u => decide (rootF F 12 u = r)).map fun u : Nat => (u : Int)
def partsV (F : List Nat) (v : Nat) : List (List Int) := (rootsL F v).map (partV F v)
theorem rootsL_nodup (F : List Nat) (v : Nat) : (rootsL F v).Nodup := List.Nodup.sublist List.filter_sublist List.nodup_range
theorem rootsL_mem {F : List Nat} {v u : Nat} : u ∈ rootsL F v ↔ u < v ∧ rootF F 12 u = u := by simp [rootsL]
theorem rootsL_succ (F : List Nat) (v : Nat) : rootsL F (v + 1) = if rootF F 12 v = v then rootsL F v ++ [v] else rootsL F v := by
 unfold rootsL
 rw [List.range_succ, List.filter_append]
 by_cases h : rootF F 12 v = v <;> simp [h]
theorem rootsL_len (F : List Nat) (v : Nat) : (rootsL F v).length ≤ v := by
 unfold rootsL
 exact Nat.le_trans (List.length_filter_le _ _) (by simp)
theorem partV_succ (F : List Nat) (v r : Nat) : partV F (v + 1) r = if rootF F 12 v = r then partV F v r ++ [(v : Int)] else partV F v r := by
 unfold partV
 rw [List.range_succ, List.filter_append]
 by_cases h : rootF F 12 v = r <;> simp [h]
theorem parts_new {F : List Nat} (hF : FOk F) {v : Nat} (hv : v < 12) (h : rootF F 12 v = v) : partsV F (v + 1) = partsV F v ++ [[(v : Int)]] := by
 unfold partsV
 rw [rootsL_succ, if_pos h, List.map_append]
 congr 1
 ·refine List.map_congr_left fun r hr => ?_
  have := (rootsL_mem.1 hr).1
  rw [partV_succ, if_neg (by omega)]
 ·simp only [List.map_cons, List.map_nil]
  rw [partV_succ, if_pos h]
  have : partV F v v = [] := by
   unfold partV
   rw [List.map_eq_nil_iff, List.filter_eq_nil_iff]
   intro u hu
   have hu' := List.mem_range.1 hu
   have := rootF_le hF (n := 12) (v := u) (by omega)
   simp only [decide_eq_true_eq]; omega
  rw [this]; rfl
theorem parts_old {F : List Nat} {v k : Nat} (h : rootF F 12 v ≠ v) {r : Nat} (hk : (rootsL F v)[k]? = some r) (hr : rootF F 12 v = r) : (rootsL F (v + 1)) = rootsL F v ∧ (partsV F v)[k]? = some (partV F v r) ∧ partsV F (v + 1) = (partsV F v).set k (partV F v r ++ [(v : Int)]) := by
 have e1 : rootsL F (v + 1) = rootsL F v := by rw [rootsL_succ, if_neg h]
 refine ⟨e1, by simp [partsV, hk], ?_⟩
 unfold partsV
 rw [e1]
 apply List.ext_getElem?
 intro i
 have hkl := (List.getElem?_eq_some_iff.1 hk).1
 by_cases e : k = i
 ·subst e
  rw [List.getElem?_set_self (by simpa using hkl), List.getElem?_map, hk]
  simp only [Option.map_some]
  rw [partV_succ, if_pos hr]
 ·rw [List.getElem?_set_ne e, List.getElem?_map, List.getElem?_map]
  cases hi : (rootsL F v)[i]? with
  | none => rfl
  | some s =>
   simp only [Option.map_some]
   rw [partV_succ, if_neg]
   intro hs
   obtain ⟨hil, e2⟩ := List.getElem?_eq_some_iff.1 hi
   obtain ⟨_, e3⟩ := List.getElem?_eq_some_iff.1 hk
   have hnd := rootsL_nodup F v
   rw [List.Nodup, List.pairwise_iff_getElem] at hnd
   have e4 : (rootsL F v)[k] = (rootsL F v)[i] := by rw [e2, e3, ← hr, hs]
   rcases Nat.lt_or_gt_of_ne e with h | h
   ·exact hnd k i hkl hil h e4
   ·exact hnd i k hil hkl h e4.symm
def mR : Nat → List Nat → List (MKey × MV)
 | _, [] => []
 | b, r :: l => (.int r, .c (.int .i64 (b : Int))) :: mR (b + 1) l
theorem mR_none : ∀ (b : Nat) (l : List Nat) (r : Nat), r ∉ l → mIdx (mR b l) (.int r) = none
 | b, [], r, _ => rfl
 | b, x :: l, r, h => by
  have h1 : ¬ x = r := fun e => h (by simp [e])
  have h2 := mR_none (b + 1) l r (fun hm => h (by simp [hm]))
  unfold mIdx at h2 ⊢
  simp only [mR, List.findIdx?_cons, h2, Option.map_none]
  rw [if_neg]
  intro e
  have : (MKey.int (x : Int)) = .int r := by simpa using e
  injection this with e
  exact h1 (by omega)
theorem mR_at : ∀ (b : Nat) (l : List Nat) (k r : Nat), l.Nodup → l[k]? = some r → mIdx (mR b l) (.int r) = some k ∧ (mR b l)[k]? = some (.int r, .c (.int .i64 ((b + k : Nat) : Int)))
 | b, [], k, r, _, h => by simp at h
 | b, x :: l, 0, r, _, h => by
  simp at h; subst h
  simp [mIdx, mR, List.findIdx?_cons]
 | b, x :: l, k + 1, r, hn, h => by
  rw [List.nodup_cons] at hn
  have h' : l[k]? = some r := by simpa using h
  obtain ⟨q1, q2⟩ := mR_at (b + 1) l k r hn.2 h'
  have h1 : ¬ x = r := fun e => hn.1 (by rw [e]; exact List.mem_of_getElem? h')
  constructor
  ·unfold mIdx at q1 ⊢
   simp only [mR, List.findIdx?_cons, q1, Option.map_some]
   rw [if_neg]
   intro e
   have : (MKey.int (x : Int)) = .int r := by simpa using e
   injection this with e
   exact h1 (by omega)
  ·simp only [mR, List.getElem?_cons_succ, q2]
   rw [show b + 1 + k = b + (k + 1) by omega]
theorem mR_val {l : List Nat} {k r : Nat} (hn : l.Nodup) (h : l[k]? = some r) (z : MV) : mVal (mR 0 l) (.int r) z = .c (.int .i64 (k : Int)) := by
 obtain ⟨q1, q2⟩ := mR_at 0 l k r hn h
 unfold mVal
 simp [q1, q2]
theorem mR_snoc : ∀ (b : Nat) (l : List Nat) (r : Nat), mR b (l ++ [r]) = mR b l ++ [(.int r, .c (.int .i64 ((b + l.length : Nat) : Int)))]
 | b, [], r => by simp [mR]
 | b, x :: l, r => by
  have := mR_snoc (b + 1) l r
  simp only [List.cons_append, mR, this, List.length_cons]
  rw [show b + 1 + l.length = b + (l.length + 1) by omega]
theorem mR_put {l : List Nat} {r : Nat} (h : r ∉ l) : mPut (mR 0 l) (.int r) (.c (.int .i64 (l.length : Int))) = mR 0 (l ++ [r]) := by
 unfold mPut
 rw [mR_none 0 l r h, mR_snoc]
 simp
theorem klInts_ok : ∀ {b : Nat} {l : List Nat}, ∀ e, e ∈ mR b l → KShape.ok .int e.1 = true
 | b, [], e, h => by simp [mR] at h
 | b, x :: l, e, h => by
  rcases List.mem_cons.1 h with rfl | h
  ·rfl
  ·exact klInts_ok e h
end Go.Proofs.Ytdhfgihnoimoaaa
