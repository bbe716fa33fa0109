/- A part of the proof. -/
import Derived.Test.YtgklecfiflhjmaaPart12
import Derived.Test.YtgklecfiflhjmaaLayerC
import Derived.Test.YtgklecfiflhjmaaPart06
import Derived.Test.YtgklecfiflhjmaaPart10
import Derived.Test.YtgklecfiflhjmaaPart02
import Derived.Test.YtgklecfiflhjmaaPart11
set_option linter.all false
set_option maxHeartbeats 4000000
set_option maxRecDepth 100000
namespace Go.Proofs.Ytgklecfiflhjmaa
open Go.Sp
theorem snoc_ind {α : Type} {P : List α → Prop} (h0 : P []) (h1 : ∀ l x, P l → P (l ++ [x])) (l : List α) : P l := by
 have : ∀ r : List α, P r.reverse := fun r => by
  induction r with
  | nil => simpa using h0
  | cons x xs ih => rw [List.reverse_cons]; exact h1 _ _ ih
 simpa using this l.reverse
inductive Conn (l : List (Int × Int)) (a : Nat) : Nat → Prop
 | refl : Conn l a a
 | step {b c : Nat} : Conn l a b → (((b : Int), (c : Int)) ∈ l ∨ ((c : Int), (b : Int)) ∈ l) → Conn l a c
theorem Conn.trans {l : List (Int × Int)} {a b c : Nat} (h1 : Conn l a b) (h2 : Conn l b c) : Conn l a c := by
 induction h2 with
 | refl => exact h1
 | step _ h ih => exact .step ih h
theorem Conn.one {l : List (Int × Int)} {b c : Nat} (h : ((b : Int), (c : Int)) ∈ l ∨ ((c : Int), (b : Int)) ∈ l) : Conn l b c := .step .refl h
theorem Conn.symm {l : List (Int × Int)} {a b : Nat} (h : Conn l a b) : Conn l b a := by
 induction h with
 | refl => exact .refl
 | step _ h ih => exact (Conn.one h.symm).trans ih
theorem Conn.mono {l m : List (Int × Int)} (hs : ∀ p, p ∈ l → p ∈ m) {a b : Nat} (h : Conn l a b) : Conn m a b := by
 induction h with
 | refl => exact .refl
 | step _ h ih => exact .step ih (h.imp (hs _) (hs _))
theorem root_fix {F : List Nat} (h : FOk F) : ∀ {u : Nat}, u < 12 → F[rootF F 12 u]? = some (rootF F 12 u) := by
 intro u
 induction u using Nat.strongRecOn with
 | _ u ih =>
  intro hu
  have hul : u < F.length := by rw [h.len]; exact hu
  have hle := h.le u hul
  rw [rootF_step h hul]
  by_cases e : F[u] = u
  ·rw [if_pos e, List.getElem?_eq_getElem hul, e]
  ·rw [if_neg e]; exact ih _ (by omega) (by omega)
theorem root_self {F : List Nat} (h : FOk F) {u : Nat} (hu : u < 12) (e : F[u]? = some u) : rootF F 12 u = u := by
 have hul : u < F.length := by rw [h.len]; exact hu
 rw [rootF_step h hul, if_pos (by rw [List.getElem?_eq_getElem hul] at e; exact Option.some.inj e)]
theorem root_lt {F : List Nat} (h : FOk F) {u : Nat} (hu : u < 12) : rootF F 12 u < 12 := by
 have := rootF_le h (n := 12) hu; omega
theorem root_iff {F : List Nat} (h : FOk F) {u : Nat} (hu : u < 12) : rootF F 12 u = u ↔ F[u]? = some u :=
 ⟨fun e => by have := root_fix h hu; rwa [e] at this, root_self h hu⟩
theorem union_root {F : List Nat} (h : FOk F) {M m : Nat} (hM : M < 12) (hm : m ≤ M) (eM : F[M]? = some M) (em : F[m]? = some m) : ∀ {u : Nat}, u < 12 → rootF (F.set M m) 12 u = if rootF F 12 u = M then m else rootF F 12 u := by
 have h' : FOk (F.set M m) := ⟨by simp [h.len], fun i hi => by
  rw [List.getElem_set]; split
  ·omega
  ·exact h.le i (by simpa using hi)⟩
 intro u
 induction u using Nat.strongRecOn with
 | _ u ih =>
  intro hu
  have hul : u < F.length := by rw [h.len]; exact hu
  have hul' : u < (F.set M m).length := by simpa using hul
  have hle := h.le u hul
  rw [rootF_step h' hul', List.getElem_set]
  by_cases e : M = u
  ·subst e
   rw [if_pos rfl, root_self h hu eM, if_pos rfl]
   by_cases e2 : m = M
   ·rw [if_pos e2]; exact e2.symm
   ·rw [if_neg e2, ih m (by omega) (by omega), root_self h (by omega) em, if_neg e2]
  ·rw [if_neg e, rootF_step h hul]
   by_cases e2 : F[u] = u
   ·rw [if_pos e2, if_pos e2, if_neg (fun x => e x.symm)]
   ·rw [if_neg e2, if_neg e2]; exact ih _ (by omega) (by omega)
def rootsN (F : List Nat) : Nat → Int
 | 0 => 0
 | k + 1 => rootsN F k + (if F[k]? = some k then 1 else 0)
theorem rootsN_set {F : List Nat} {M m : Nat} (hM : M < F.length) (hne : m ≠ M) (eM : F[M]? = some M) (k : Nat) : rootsN (F.set M m) k = rootsN F k - (if M < k then 1 else 0) := by
 induction k with
 | zero => simp [rootsN]
 | succ k ih =>
  simp only [rootsN, ih]
  by_cases e : M = k
  ·subst e
   rw [List.getElem?_set_self hM, if_neg (show ¬ (some m = some M) from fun h => hne (Option.some.inj h)), if_pos eM, if_neg (show ¬ M < M by omega), if_pos (show M < M + 1 by omega)]; omega
  ·rw [List.getElem?_set_ne e]
   by_cases e2 : M < k
   ·rw [if_pos e2, if_pos (show M < k + 1 by omega)]; omega
   ·rw [if_neg e2, if_neg (show ¬ M < k + 1 by omega)]; omega
structure UF (l : List (Int × Int)) : Prop where
 ok : FOk (genS l).1
 sound : ∀ u, u < 12 → Conn l u (rootF (genS l).1 12 u)
 all : ∀ p, p ∈ l → rootF (genS l).1 12 p.1.toNat = rootF (genS l).1 12 p.2.toNat
 cnt : (genS l).2 + 12 = l.length + rootsN (genS l).1 12
def In12 (l : List (Int × Int)) : Prop := ∀ p, p ∈ l → (0 ≤ p.1 ∧ p.1 < 12) ∧ (0 ≤ p.2 ∧ p.2 < 12)
theorem uf (l : List (Int × Int)) (hr : In12 l) : UF l := by
 revert hr
 refine snoc_ind (P := fun l => In12 l → UF l) ?_ ?_ l
 ·intro _
  have h0 : FOk (List.range 12) := ⟨by simp, fun i hi => by simp⟩
  refine ⟨h0, fun u hu => ?_, (fun p hp => absurd hp (by simp)), ?_⟩
  ·have e : rootF (genS []).1 12 u = u := root_self h0 hu (by rw [List.getElem?_range hu])
   rw [e]; exact .refl
  ·decide
 ·intro l p ih hr
  have hl := ih fun q hq => hr q (by simp [hq])
  have hp := hr p (by simp)
  obtain ⟨ok, sound, all, cnt⟩ := hl
  have hsn := genS_snoc l p
  have ok' := genStep_ok (s := genS l) ok hp.1 hp.2
  rw [← hsn] at ok'
  generalize hF : (genS l).1 = F at *
  generalize hc : (genS l).2 = c at *
  have h1 : p.1.toNat < 12 := by omega
  have h2 : p.2.toNat < 12 := by omega
  have e1 := root_fix ok h1
  have e2 := root_fix ok h2
  have l1 := root_lt ok h1
  have l2 := root_lt ok h2
  have hgF : (genS (l ++ [p])).1 = F.set (max (rootF F 12 p.1.toNat) (rootF F 12 p.2.toNat)) (min (rootF F 12 p.1.toNat) (rootF F 12 p.2.toNat)) := by rw [hsn]; simp only [genStep, hF]
  have hgc : (genS (l ++ [p])).2 = if rootF F 12 p.1.toNat = rootF F 12 p.2.toNat then c + 1 else c := by rw [hsn]; simp only [genStep, hF, hc]
  have c1 := sound _ h1
  have c2 := sound _ h2
  have hsub : ∀ q, q ∈ l → q ∈ l ++ [p] := fun q hq => by simp [hq]
  have hpp : Conn (l ++ [p]) p.1.toNat p.2.toNat := Conn.one (.inl (by
   have : ((p.1.toNat : Nat) : Int) = p.1 := by omega
   have h3 : ((p.2.toNat : Nat) : Int) = p.2 := by omega
   rw [this, h3]; simp))
  have hab : Conn (l ++ [p]) (rootF F 12 p.1.toNat) (rootF F 12 p.2.toNat) := ((c1.mono hsub).symm.trans hpp).trans (c2.mono hsub)
  generalize ha : rootF F 12 p.1.toNat = a at *
  generalize hb : rootF F 12 p.2.toNat = b at *
  have eM : F[max a b]? = some (max a b) := by rcases Nat.le_total a b with h | h <;> simp [Nat.max_eq_right, Nat.max_eq_left, h, e1, e2]
  have em : F[min a b]? = some (min a b) := by rcases Nat.le_total a b with h | h <;> simp [Nat.min_eq_right, Nat.min_eq_left, h, e1, e2]
  have hun := fun {u : Nat} (hu : u < 12) => union_root ok (M := max a b) (m := min a b) (by omega) (by omega) eM em hu
  refine ⟨ok', fun u hu => ?_, fun q hq => ?_, ?_⟩
  ·rw [hgF, hun hu]
   have hs := (sound u hu).mono hsub
   by_cases e : rootF F 12 u = max a b
   ·rw [if_pos e]
    refine hs.trans ?_
    rw [e]
    rcases Nat.le_total a b with h | h
    ·rw [Nat.max_eq_right h, Nat.min_eq_left h]; exact hab.symm
    ·rw [Nat.max_eq_left h, Nat.min_eq_right h]; exact hab
   ·rw [if_neg e]; exact hs
  ·rw [hgF]
   rcases List.mem_append.1 hq with hq | hq
   ·have hq2 := hr q (by simp [hq])
    rw [hun (by omega), hun (by omega), all q hq]
   ·obtain rfl := List.mem_singleton.1 hq
    rw [hun h1, hun h2, ha, hb]
    by_cases x : a = max a b <;> by_cases y : b = max a b
    ·rw [if_pos x, if_pos y]
    ·rw [if_pos x, if_neg y]; omega
    ·rw [if_neg x, if_pos y]; omega
    ·omega
  ·rw [hgF, hgc, List.length_append, List.length_singleton]
   by_cases e : a = b
   ·subst e
    rw [if_pos rfl, Nat.max_self, Nat.min_self]
    have hal : a < F.length := by rw [ok.len]; exact l1
    have : F.set a a = F := by
     apply List.ext_getElem?
     intro i
     by_cases hi : a = i
     ·subst hi; rw [List.getElem?_set_self hal, e1]
     ·rw [List.getElem?_set_ne hi]
    rw [this]; omega
   ·rw [if_neg e, rootsN_set (by rw [ok.len]; omega) (by omega) eM, if_pos (by omega)]; omega
theorem conn_root {l : List (Int × Int)} (hr : In12 l) {u w : Nat} (hu : u < 12) (hw : w < 12) : Conn l u w ↔ rootF (genS l).1 12 u = rootF (genS l).1 12 w := by
 have h := uf l hr
 constructor
 ·intro hc
  have key : ∀ w, Conn l u w → w < 12 → rootF (genS l).1 12 u = rootF (genS l).1 12 w := by
   intro w hc
   induction hc with
   | refl => intro _; rfl
   | step _ hh ih =>
    intro hw
    rename_i b c _
    rcases hh with hh | hh
    ·have := hr _ hh
     rw [ih (by omega)]; simpa using h.all _ hh
    ·have := hr _ hh
     rw [ih (by omega)]; simpa using (h.all _ hh).symm
  exact key w hc hw
 ·intro e
  have h1 := h.sound u hu
  have h2 := h.sound w hw
  rw [e] at h1
  exact h1.trans h2.symm
theorem isRoot_iff {l : List (Int × Int)} (hr : In12 l) {v : Nat} (hv : v < 12) : (genS l).1[v]? = some v ↔ ¬ ∃ u, u < v ∧ Conn l u v := by
 have h := uf l hr
 rw [← root_iff h.ok hv]
 constructor
 ·rintro e ⟨u, hu, hc⟩
  have := (conn_root hr (by omega) hv).1 hc
  have := rootF_le h.ok (n := 12) (v := u) (by omega)
  omega
 ·intro hn
  have hle := rootF_le h.ok (n := 12) hv
  by_cases e : rootF (genS l).1 12 v = v
  ·exact e
  ·exact absurd ⟨_, by omega, (h.sound v hv).symm⟩ hn
def GT (R : List Bool) (u : Nat) : Prop := R.getD u false = true
theorem GT_lt {R : List Bool} {u : Nat} (h : GT R u) : u < R.length := by
 unfold GT at h
 rw [List.getD_eq_getElem?_getD] at h
 by_cases hu : u < R.length
 ·exact hu
 ·rw [List.getElem?_eq_none (by omega)] at h; simp at h
theorem GT_set {R : List Bool} {b u : Nat} (hb : b < R.length) : GT (R.set b true) u ↔ u = b ∨ GT R u := by
 unfold GT
 rw [List.getD_eq_getElem?_getD, List.getD_eq_getElem?_getD]
 by_cases e : b = u
 ·subst e; rw [List.getElem?_set_self hb]; simp
 ·rw [List.getElem?_set_ne e]
  constructor
  ·intro h; exact .inr h
  ·rintro (h | h)
   ·exact absurd h.symm e
   ·exact h
theorem GT_step {es : List E} {a b u : Nat} {R : List Bool} (hb : b < R.length) : GT (rStep es a R b) u ↔ GT R u ∨ (u = b ∧ GT R a ∧ adjB es a b = true) := by
 unfold rStep
 by_cases h : (R.getD a false && adjB es a b) = true
 ·rw [if_pos h, GT_set hb]
  simp only [Bool.and_eq_true] at h
  constructor
  ·rintro (rfl | h2)
   ·exact .inr ⟨rfl, h.1, h.2⟩
   ·exact .inl h2
  ·rintro (h2 | ⟨rfl, _⟩)
   ·exact .inr h2
   ·exact .inl rfl
 ·rw [if_neg h]
  simp only [Bool.and_eq_true, not_and] at h
  constructor
  ·exact .inl
  ·rintro (h2 | ⟨_, h3, h4⟩)
   ·exact h2
   ·exact absurd h4 (h h3)
theorem fold_inv {f : List Bool → Nat → List Bool} (P : Nat → List Bool → Prop) {z : List Bool} (h0 : P 0 z) (k : Nat) (h1 : ∀ i R, i < k → P i R → P (i + 1) (f R i)) : P k ((List.range k).foldl f z) := by
 induction k with
 | zero => exact h0
 | succ k ih => rw [foldl_range_succ]; exact h1 _ _ (by omega) (ih fun i R hi => h1 i R (by omega))
structure Rd (es : List E) (n : Nat) (R S : List Bool) : Prop where
 len : S.length = n
 up : ∀ u, GT R u → GT S u
theorem row_mono {es : List E} {n a : Nat} {R : List Bool} (hl : R.length = n) : Rd es n R (rRow es n a R) ∧ (GT R a → ∀ b, b < n → adjB es a b = true → GT (rRow es n a R) b) := by
 have := fold_inv (f := rStep es a) (P := fun k S => Rd es n R S ∧ (GT R a → ∀ b, b < k → adjB es a b = true → GT S b)) (z := R) ⟨⟨hl, fun u h => h⟩, fun _ b hb => by omega⟩ n (by
  rintro i S hi ⟨⟨h1, h2⟩, h3⟩
  refine ⟨⟨by rw [rStep_len, h1], fun u hu => (GT_step (by omega)).2 (.inl (h2 u hu))⟩, fun ha b hb hab => ?_⟩
  rw [GT_step (by omega)]
  by_cases e : b = i
  ·subst e; exact .inr ⟨rfl, h2 a ha, hab⟩
  ·exact .inl (h3 ha b (by omega) hab))
 exact this
theorem round_mono {es : List E} {n : Nat} {R : List Bool} (hl : R.length = n) : Rd es n R (rRound es n R) ∧ (∀ a, a < n → GT R a → ∀ b, b < n → adjB es a b = true → GT (rRound es n R) b) := by
 have := fold_inv (f := fun R a => rRow es n a R) (P := fun k S => Rd es n R S ∧ (∀ a, a < k → GT R a → ∀ b, b < n → adjB es a b = true → GT S b)) (z := R) ⟨⟨hl, fun u h => h⟩, fun a ha => by omega⟩ n (by
  rintro i S hi ⟨⟨h1, h2⟩, h3⟩
  obtain ⟨⟨q1, q2⟩, q3⟩ := row_mono (es := es) (a := i) h1
  refine ⟨⟨q1, fun u hu => q2 u (h2 u hu)⟩, fun a ha hR b hb hab => ?_⟩
  by_cases e : a = i
  ·subst e; exact q3 (h2 a hR) b hb hab
  ·exact q2 b (h3 a (by omega) hR b hb hab))
 exact this
def ClosedR (es : List E) (n : Nat) (R : List Bool) : Prop := ∀ a, a < n → GT R a → ∀ b, b < n → adjB es a b = true → GT R b
theorem step_same {es : List E} {n a b : Nat} {R : List Bool} (hl : R.length = n) (hb : b < n) (ha : a < n) (h : ClosedR es n R) : rStep es a R b = R := by
 unfold rStep
 by_cases hx : (R.getD a false && adjB es a b) = true
 ·rw [if_pos hx]
  simp only [Bool.and_eq_true] at hx
  have := h a ha hx.1 b hb hx.2
  apply List.ext_getElem?
  intro i
  by_cases e : b = i
  ·subst e
   rw [List.getElem?_set_self (by omega), List.getElem?_eq_getElem (by omega)]
   unfold GT at this
   rw [List.getD_eq_getElem?_getD, List.getElem?_eq_getElem (by omega)] at this
   simpa using this.symm
  ·rw [List.getElem?_set_ne e]
 ·rw [if_neg hx]
theorem round_same {es : List E} {n : Nat} {R : List Bool} (hl : R.length = n) (h : ClosedR es n R) : rRound es n R = R := by
 have := fold_inv (f := fun R a => rRow es n a R) (P := fun k S => S = R) (z := R) rfl n (by
  rintro i S hi rfl
  have := fold_inv (f := rStep es i) (P := fun k T => T = S) (z := S) rfl n (by
   rintro j T hj rfl
   exact step_same hl hj hi h)
  exact this)
 exact this
def cntT : List Bool → Nat
 | [] => 0
 | b :: R => (if b then 1 else 0) + cntT R
theorem cntT_le (R : List Bool) : cntT R ≤ R.length := by
 induction R with
 | nil => exact Nat.le_refl _
 | cons b R ih => simp only [cntT, List.length_cons]; split <;> omega
theorem cntT_mono : ∀ {R S : List Bool}, R.length = S.length → (∀ u, GT R u → GT S u) → cntT R ≤ cntT S ∧ (cntT R = cntT S → R = S)
 | [], [], _, _ => ⟨Nat.le_refl _, fun _ => rfl⟩
 | [], _ :: _, h, _ => by simp at h
 | _ :: _, [], h, _ => by simp at h
 | x :: R, y :: S, h, hu => by
  have h0 := hu 0
  have ih := cntT_mono (R := R) (S := S) (by simpa using h) (fun u hx => by have := hu (u + 1); unfold GT at *; simpa using this (by simpa using hx))
  unfold GT at h0
  simp only [cntT]
  cases x <;> cases y
  ·simp; exact ⟨ih.1, ih.2⟩
  ·simp; omega
  ·simp at h0
  ·simp
   refine ⟨ih.1, fun h => ih.2 (by omega)⟩
theorem adj_ends {g : G} (hc : checkG g = 0) {a b : Nat} : adjB g.es a b = true ↔ (((a : Int), (b : Int)) ∈ endsL g.es ∨ ((b : Int), (a : Int)) ∈ endsL g.es) := by
 obtain ⟨h1, h2, h3⟩ := checkG_zero.1 hc
 unfold adjB
 rw [decide_eq_true_eq, cntL_pos (fun e he => by have := h2 e he; unfold okE at this; omega)]
 have hmem : ∀ e, e ∈ g.es → (e.a, e.b) ∈ endsL g.es := fun e he => by
  have := h2 e he
  unfold okE at this
  exact List.mem_flatMap.2 ⟨e, he, List.mem_replicate.2 ⟨by omega, rfl⟩⟩
 constructor
 ·rintro ⟨e, he, e1, e2⟩
  have := hmem e he
  rw [e1, e2] at this
  rcases Nat.le_total a b with h | h
  ·left; rwa [show min (a : Int) b = a by omega, show max (a : Int) b = b by omega] at this
  ·right; rwa [show min (a : Int) b = b by omega, show max (a : Int) b = a by omega] at this
 ·intro h
  have key : ∀ x y : Int, (x, y) ∈ endsL g.es → ∃ e, e ∈ g.es ∧ e.a = x ∧ e.b = y ∧ x ≤ y := fun x y hxy => by
   obtain ⟨e, he, hx⟩ := endsL_mem hxy
   have := h2 e he
   unfold okE at this
   cases hx
   exact ⟨e, he, rfl, rfl, by omega⟩
  rcases h with h | h
  ·obtain ⟨e, he, h4, h5, h6⟩ := key _ _ h
   exact ⟨e, he, by omega, by omega⟩
  ·obtain ⟨e, he, h4, h5, h6⟩ := key _ _ h
   exact ⟨e, he, by omega, by omega⟩
theorem ends_in {g : G} {n : Nat} (hc : checkG g = 0) (hn : g.n = n) : ∀ p, p ∈ endsL g.es → (0 ≤ p.1 ∧ p.1 < n) ∧ (0 ≤ p.2 ∧ p.2 < n) := fun p hp => by
 have := ends_range hc hp; omega
theorem reach_spec {g : G} {n v : Nat} (hc : checkG g = 0) (hn : g.n = n) (hv : v < n) {u : Nat} (hu : u < n) : GT (reachL g.es n v) u ↔ Conn (endsL g.es) v u := by
 have hlen : ∀ k, (reachN g.es n v k).length = n := reachN_len g.es n v
 have hsucc : ∀ k, reachN g.es n v (k + 1) = rRound g.es n (reachN g.es n v k) := fun k => foldl_range_succ _ _ _
 have hz : ∀ u, GT (reachN g.es n v 0) u ↔ u = v := fun u => by
  show GT ((List.replicate n false).set v true) u ↔ u = v
  rw [GT_set (by simpa using hv)]
  constructor
  ·rintro (h | h)
   ·exact h
   ·exfalso
    have hl := GT_lt h
    unfold GT at h
    rw [List.getD_eq_getElem?_getD, List.getElem?_eq_getElem hl, List.getElem_replicate] at h
    simp at h
  ·exact .inl
 constructor
 ·-- sound
  have hstep : ∀ (R : List Bool) (a b : Nat), R.length = n → b < n → (∀ u, GT R u → Conn (endsL g.es) v u) → ∀ u, GT (rStep g.es a R b) u → Conn (endsL g.es) v u := fun R a b hl hb h u hu => by
   rw [GT_step (by omega)] at hu
   rcases hu with hu | ⟨rfl, ha, hab⟩
   ·exact h u hu
   ·exact .step (h a ha) ((adj_ends hc).1 hab)
  have hall : ∀ k, ∀ u, GT (reachN g.es n v k) u → Conn (endsL g.es) v u := fun k => by
   induction k with
   | zero => intro u hu; rw [(hz u).1 hu]; exact .refl
   | succ k ih =>
    rw [hsucc]
    have := fold_inv (f := fun R a => rRow g.es n a R) (P := fun _ S => S.length = n ∧ ∀ u, GT S u → Conn (endsL g.es) v u) (z := reachN g.es n v k) ⟨hlen k, ih⟩ n (by
     rintro i S hi ⟨h1, h2⟩
     have := fold_inv (f := rStep g.es i) (P := fun _ S => S.length = n ∧ ∀ u, GT S u → Conn (endsL g.es) v u) (z := S) ⟨h1, h2⟩ n (by
      rintro j T hj ⟨h3, h4⟩
      exact ⟨by rw [rStep_len, h3], hstep T i j h3 hj h4⟩)
     exact this)
    exact this.2
  exact hall n u
 ·-- complete
  have hgrow : ∀ k, ClosedR g.es n (reachN g.es n v k) ∨ k + 1 ≤ cntT (reachN g.es n v k) := fun k => by
   induction k with
   | zero =>
    right
    have h1 : GT (reachN g.es n v 0) v := (hz v).2 rfl
    by_cases h0 : cntT (reachN g.es n v 0) = 0
    ·exfalso
     have key : ∀ R : List Bool, cntT R = 0 → ∀ u, ¬ GT R u := by
      intro R
      induction R with
      | nil => intro _ u h; exact absurd (GT_lt h) (by simp)
      | cons b R ih =>
       intro h u hu
       simp only [cntT] at h
       have hb : b = false := by cases b <;> simp at h ⊢
       subst hb
       cases u with
       | zero => unfold GT at hu; simp at hu
       | succ u => exact ih (by simpa using h) u (by unfold GT at *; simpa using hu)
     exact key _ h0 _ h1
    ·omega
   | succ k ih =>
    obtain ⟨⟨q1, q2⟩, q3⟩ := round_mono (es := g.es) (hlen k)
    rw [hsucc]
    by_cases hcl : ClosedR g.es n (reachN g.es n v k)
    ·left; rw [round_same (hlen k) hcl]; exact hcl
    ·right
     have hk : k + 1 ≤ cntT (reachN g.es n v k) := ih.resolve_left hcl
     obtain ⟨c1, c2⟩ := cntT_mono (by rw [hlen k, q1]) q2
     by_cases e : cntT (reachN g.es n v k) = cntT (rRound g.es n (reachN g.es n v k))
     ·exfalso
      refine hcl fun a ha hR b hb hab => ?_
      have := q3 a ha hR b hb hab
      rwa [← c2 e] at this
     ·omega
  have hcl : ClosedR g.es n (reachN g.es n v n) := by
   rcases hgrow n with h | h
   ·exact h
   ·have := cntT_le (reachN g.es n v n); rw [hlen n] at this; omega
  have hvT : ∀ k, GT (reachN g.es n v k) v := fun k => by
   induction k with
   | zero => exact (hz v).2 rfl
   | succ k ih => rw [hsucc]; exact (round_mono (es := g.es) (hlen k)).1.up v ih
  intro hcn
  have key : ∀ w, Conn (endsL g.es) v w → GT (reachN g.es n v n) w := by
   intro w hw
   induction hw with
   | refl => exact hvT n
   | step _ hh ih =>
    rename_i b c _
    have hb : b < n ∧ c < n := by
     rcases hh with hh | hh <;> (have := ends_in hc hn _ hh; simp only at this; omega)
    exact hcl b hb.1 ih c hb.2 ((adj_ends hc).2 hh)
  exact key u hcn
theorem or_spec {R S : List Bool} {n : Nat} (hS : S.length = n) (u : Nat) (hu : u < n) : GT (orK R S n) u ↔ GT S u ∨ GT R u := by
 have := fold_inv (f := orStep R) (P := fun k T => T.length = n ∧ ∀ u, u < n → (GT T u ↔ GT S u ∨ (u < k ∧ GT R u))) (z := S) ⟨hS, fun u _ => by simp⟩ n (by
  rintro i T hi ⟨h1, h2⟩
  refine ⟨by rw [orStep_len, h1], fun u hu => ?_⟩
  unfold orStep
  by_cases e : i = u
  ·subst e
   unfold GT at h2 ⊢
   have h3 := h2 i hu
   rw [List.getD_eq_getElem?_getD, List.getElem?_set_self (by omega), Option.getD_some, Bool.or_eq_true, h3]
   constructor
   ·rintro ((h | h) | h)
    ·exact .inl h
    ·omega
    ·exact .inr ⟨by omega, h⟩
   ·rintro (h | ⟨_, h⟩)
    ·exact .inl (.inl h)
    ·exact .inr h
  ·have h3 := h2 u hu
   unfold GT at h3 ⊢
   rw [List.getD_eq_getElem?_getD, List.getElem?_set_ne e, ← List.getD_eq_getElem?_getD, h3]
   constructor
   ·rintro (h | ⟨h, h'⟩)
    ·exact .inl h
    ·exact .inr ⟨by omega, h'⟩
   ·rintro (h | ⟨h, h'⟩)
    ·exact .inl h
    ·exact .inr ⟨by omega, h'⟩)
 have h3 := this.2 u hu
 unfold orK
 rw [h3]
 constructor
 ·rintro (h | ⟨_, h⟩)
  ·exact .inl h
  ·exact .inr h
 ·rintro (h | h)
  ·exact .inl h
  ·exact .inr ⟨hu, h⟩
theorem seen_spec {g : G} {n : Nat} (hc : checkG g = 0) (hn : g.n = n) : ∀ v, v ≤ n → ∀ u, u < n → (GT (seenN g.es n v) u ↔ ∃ w, w < v ∧ Conn (endsL g.es) w u) := by
 intro v
 induction v with
 | zero =>
  intro _ u hu
  constructor
  ·intro h
   exfalso
   have hl := GT_lt h
   unfold GT at h
   rw [List.getD_eq_getElem?_getD, List.getElem?_eq_getElem hl] at h
   simp [seenN] at h
  ·rintro ⟨w, hw, _⟩; omega
 | succ v ih =>
  intro hv u hu
  have ih := ih (by omega)
  have hS1 : seenN g.es n (v + 1) = seenStep g.es n (seenN g.es n v) v := foldl_range_succ _ _ _
  rw [hS1]
  unfold seenStep
  by_cases h : (seenN g.es n v).getD v false = true
  ·rw [if_pos h, ih u hu]
   obtain ⟨w, hw, hcw⟩ := (ih v (by omega)).1 h
   constructor
   ·rintro ⟨x, hx, h2⟩; exact ⟨x, by omega, h2⟩
   ·rintro ⟨x, hx, h2⟩
    by_cases e : x = v
    ·subst e; exact ⟨w, hw, hcw.trans h2⟩
    ·exact ⟨x, by omega, h2⟩
  ·rw [if_neg h, or_spec (seenN_len g.es n v) u hu, ih u hu, reach_spec hc hn (by omega) hu]
   constructor
   ·rintro (⟨x, hx, h2⟩ | h2)
    ·exact ⟨x, by omega, h2⟩
    ·exact ⟨v, by omega, h2⟩
   ·rintro ⟨x, hx, h2⟩
    by_cases e : x = v
    ·subst e; exact .inr h2
    ·exact .inl ⟨x, by omega, h2⟩
theorem parts_roots {g : G} {n : Nat} (hc : checkG g = 0) (hn : g.n = n) : ∀ v, v ≤ n → (partsN g.es n v : Int) = rootsN (genS (endsL g.es)).1 v := by
 have hn12 := (checkG_zero.1 hc).1
 have hr : In12 (endsL g.es) := fun p hp => by have := ends_in hc hn p hp; omega
 intro v
 induction v with
 | zero => intro _; rfl
 | succ v ih =>
  intro hv
  have ih := ih (by omega)
  have hsp := seen_spec hc hn v (by omega) v (by omega)
  have hrt := isRoot_iff hr (v := v) (by omega)
  simp only [partsN, rootsN]
  unfold GT at hsp
  by_cases h : (seenN g.es n v).getD v false = true
  ·rw [if_pos h, if_neg (fun e => hrt.1 e (hsp.1 h))]; omega
  ·rw [if_neg h, if_pos (hrt.2 fun e => h (hsp.2 e))]; omega
def connB (g : G) : Bool := decide (partsN g.es g.n.toNat g.n.toNat = 1)
structure ROk (r : R) : Prop where
 c : checkG r.g = 0
 conn : connB r.g = true
 len : (r.ar.length : Int) = r.n
 l : ∀ (i : Nat) l, r.ar[i]? = some l → LOk l (ownL (endsL r.es) (i : Int) (2 * (endsL r.es).length))
section
variable {r : R}
end
def treesI (r : List Int) : List Tree := r.map fun x => Tree.int .i64 x
def roB (r : List Int) : Blk := .ro (treesI r)
section
variable {P : Program} {rd : Option Nat} {h : Nat} {Q : Exit → St → Prop} {c : Code} {tm : List AVal}
theorem table_data (pre : List Blk) (t : Nat) (tok : Tok) (n : Nat) (T : List (List Int)) (hT : Sq n T) (ht : tm[t]? = some (.c (.rows (refsT pre.length n n) tok)))
  (hw : AWp P rd h c Q ⟨tm.set t (.c (.slice (tabRows T) .none)), pre ++ T.map roB⟩) : AWp P rd h c Q ⟨tm, pre ++ T.map rowB⟩ := by
 have e1 : T.map rowB = (T.map fun r => (iC r, treesI r)).map fun p => Blk.box p.1 := by rw [List.map_map]; rfl
 have e2 : T.map roB = (T.map fun r => (iC r, treesI r)).map fun p => Blk.ro p.2 := by rw [List.map_map]; rfl
 rw [e1]
 refine AWp.freezeL _ pre (fun p hp => ?_) ?_
 ·obtain ⟨r, _, rfl⟩ := List.mem_map.1 hp
  exact iC_trees r
 rw [← e2]
 refine AWp.rowsData t (refsT pre.length n n) tok (T.map fun r => Tree.slice (iRows r)) ht (by rw [refsT_len, List.length_map, hT.len]) (fun i r hr => ?_) hw
 have hi : i < n := by have := (List.getElem?_eq_some_iff.1 hr).1; rwa [refsT_len] at this
 rw [refsT_get hi] at hr
 cases hr
 have hil : i < T.length := by rw [hT.len]; exact hi
 have hrl := hT.row _ (List.getElem_mem hil)
 refine ⟨_, .slice (iRows T[i]), rfl, by rw [List.getElem?_map, List.getElem?_eq_getElem hil]; rfl, fun ι σ w u hH hu => ?_⟩
 refine ro_slice (ts := treesI T[i]) hH ?_ hu (by rw [iRows_len]; exact hrl) (Nat.le_refl _) (fun r hr => iRows_k' hr) (iRows_pre T[i])
 rw [List.getElem?_append_right (by omega), Nat.add_sub_cancel, List.getElem?_map, List.getElem?_eq_getElem hil]; rfl
end
theorem tab_get {T : List (List Int)} {i : Nat} {r : List Int} (h : T[i]? = some r) : (T.map rowB)[i]? = some (.box (iC r)) := by rw [List.getElem?_map, h]; rfl
theorem tab_set (T : List (List Int)) (i : Nat) (r : List Int) : (T.map rowB).set i (.box (iC r)) = (T.set i r).map rowB := by rw [List.map_set]; rfl
def tabF (n : Nat) (g : Nat → Nat → Int) : List (List Int) := (List.range n).map fun a => (List.range n).map fun b => g a b
theorem tabF_sq (n : Nat) (g : Nat → Nat → Int) : Sq n (tabF n g) := ⟨by simp [tabF], fun r hr => by obtain ⟨a, _, rfl⟩ := List.mem_map.1 hr; simp⟩
@[simp] theorem tabF_take (n : Nat) (g : Nat → Nat → Int) : (tabF n g).take n = tabF n g := List.take_of_length_le (by rw [(tabF_sq n g).len]; exact Nat.le_refl _)
@[simp] theorem tab_take (n : Nat) (g : Nat → Nat → Int) : ((tabF n g).map rowB).take n = (tabF n g).map rowB := List.take_of_length_le (by rw [List.length_map, (tabF_sq n g).len]; exact Nat.le_refl _)
theorem tabF_row {n : Nat} (g : Nat → Nat → Int) {a : Nat} (ha : a < n) : (tabF n g)[a]? = some ((List.range n).map fun b => g a b) := by simp [tabF, ha]
theorem tabF_cell {n : Nat} (g : Nat → Nat → Int) {a b : Nat} (ha : a < n) (hb : b < n) : cellT (tabF n g) a b = g a b := by
 unfold cellT
 rw [List.getD_eq_getElem?_getD (l := tabF n g), tabF_row g ha, Option.getD_some, List.getD_eq_getElem?_getD]; simp [hb]
theorem tabF_congr {n : Nat} {g f : Nat → Nat → Int} (h : ∀ a b, a < n → b < n → g a b = f a b) : tabF n g = tabF n f := by
 unfold tabF
 refine List.map_congr_left fun a ha => List.map_congr_left fun b hb => h a b (List.mem_range.1 ha) (List.mem_range.1 hb)
theorem tabF_set {n : Nat} (g : Nat → Nat → Int) {a b : Nat} (ha : a < n) (hb : b < n) (x : Int) : (tabF n g).set a (((List.range n).map fun b => g a b).set b x) = tabF n (fun i j => if i = a ∧ j = b then x else g i j) := by
 apply List.ext_getElem?
 intro i
 by_cases hi : i < n
 ·rw [tabF_row _ hi]
  by_cases e : a = i
  ·subst e
   rw [List.getElem?_set_self (by rw [(tabF_sq n g).len]; exact ha)]
   congr 1
   apply List.ext_getElem?
   intro j
   by_cases e2 : b = j
   ·subst e2; rw [List.getElem?_set_self (by simpa using hb)]; simp [hb]
   ·rw [List.getElem?_set_ne e2]
    by_cases hj : j < n
    ·simp [hj, Ne.symm e2]
    ·simp [hj]
  ·rw [List.getElem?_set_ne e, tabF_row _ hi]
   congr 1
   refine List.map_congr_left fun j _ => ?_
   rw [if_neg (by omega)]
 ·rw [List.getElem?_eq_none (by rw [List.length_set, (tabF_sq n g).len]; omega), List.getElem?_eq_none (by rw [(tabF_sq n _).len]; omega)]
theorem rep_tab (n : Nat) (g : Nat → Nat → Int) (h : ∀ a b, g a b = 0) : List.replicate n (rowB (List.replicate n 0)) = (tabF n g).map rowB := by
 have e : tabF n g = List.replicate n (List.replicate n 0) := by
  unfold tabF
  rw [List.eq_replicate_iff]
  refine ⟨by simp, fun r hr => ?_⟩
  obtain ⟨a, _, rfl⟩ := List.mem_map.1 hr
  rw [List.eq_replicate_iff]
  refine ⟨by simp, fun x hx => ?_⟩
  obtain ⟨b, _, rfl⟩ := List.mem_map.1 hx
  exact h a b
 rw [e, List.map_replicate]
theorem rowE_mem {f : Nat → Int} {a b : Nat} {x : E} : x ∈ rowE f a b ↔ ∃ j, j < b ∧ a ≤ j ∧ 0 < f j ∧ x = ⟨a, j, f j⟩ := by
 simp only [rowE, List.mem_filterMap, List.mem_range]
 constructor
 ·rintro ⟨j, hj, h⟩
  split at h
  ·rename_i hc; cases h; exact ⟨j, hj, hc.1, hc.2, rfl⟩
  ·cases h
 ·rintro ⟨j, hj, h1, h2, rfl⟩
  exact ⟨j, hj, by rw [if_pos ⟨h1, h2⟩]⟩
theorem joinE_mem {f : Nat → Nat → Int} {n a : Nat} {x : E} : x ∈ joinE f n a ↔ ∃ i j, i < a ∧ j < n ∧ i ≤ j ∧ 0 < f i j ∧ x = ⟨i, j, f i j⟩ := by
 simp only [joinE, List.mem_flatMap, List.mem_range, rowE_mem]
 constructor
 ·rintro ⟨i, hi, j, h⟩; exact ⟨i, j, hi, h⟩
 ·rintro ⟨i, j, hi, h⟩; exact ⟨i, hi, j, h⟩
theorem rowE_sorted (f : Nat → Int) (a b : Nat) : (rowE f a b).Pairwise ltE := by
 induction b with
 | zero => exact List.Pairwise.nil
 | succ b ih =>
  rw [rowE_succ, List.pairwise_append]
  refine ⟨ih, by split <;> simp, fun x hx y hy => ?_⟩
  obtain ⟨j, hj, h1, h2, rfl⟩ := rowE_mem.1 hx
  split at hy
  ·obtain rfl := List.mem_singleton.1 hy
   exact .inr ⟨rfl, Int.ofNat_lt.2 hj⟩
  ·simp at hy
theorem joinE_sorted (f : Nat → Nat → Int) (n a : Nat) : (joinE f n a).Pairwise ltE := by
 induction a with
 | zero => exact List.Pairwise.nil
 | succ a ih =>
  rw [joinE_succ, List.pairwise_append]
  refine ⟨ih, rowE_sorted _ _ _, fun x hx y hy => ?_⟩
  obtain ⟨i, j, hi, hj, h1, h2, rfl⟩ := joinE_mem.1 hx
  obtain ⟨j', _, _, _, rfl⟩ := rowE_mem.1 hy
  exact .inl (Int.ofNat_lt.2 hi)
theorem lt_nodup {l : List E} (h : l.Pairwise ltE) : l.Nodup := h.imp fun {a b} h e => by subst e; unfold ltE at h; omega
theorem cntL_of_mem {es : List E} (h : distinctE es) {x : E} (hx : x ∈ es) : cntL es x.a x.b = x.m := by
 induction es with
 | nil => cases hx
 | cons y ys ih =>
  have hp := List.pairwise_cons.1 h
  simp only [cntL]
  rcases List.mem_cons.1 hx with rfl | hx
  ·rw [if_pos ⟨rfl, rfl⟩]
  ·have := hp.1 x hx
   unfold neE at this
   rw [if_neg (by omega), ih hp.2 hx]
theorem mem_of_cntL {es : List E} {a b : Int} (h : cntL es a b ≠ 0) : (⟨a, b, cntL es a b⟩ : E) ∈ es := by
 induction es with
 | nil => simp [cntL] at h
 | cons y ys ih =>
  simp only [cntL] at h ⊢
  by_cases hy : y.a = a ∧ y.b = b
  ·rw [if_pos hy]
   obtain ⟨ya, yb, ym⟩ := y
   simp only at hy
   obtain ⟨rfl, rfl⟩ := hy
   simp
  ·rw [if_neg hy] at h ⊢
   exact List.mem_cons_of_mem _ (ih h)
theorem join_cnt {es : List E} {n : Nat} (hs : es.Pairwise ltE) (hr : ∀ e, e ∈ es → 0 ≤ e.a ∧ e.a ≤ e.b ∧ e.b < n ∧ 1 ≤ e.m) : joinE (fun i j => cntL es i j) n n = es := by
 refine sorted_unique (joinE_sorted _ _ _) hs ((List.perm_ext_iff_of_nodup (lt_nodup (joinE_sorted _ _ _)) (lt_nodup hs)).2 fun x => ?_)
 rw [joinE_mem]
 constructor
 ·rintro ⟨i, j, hi, hj, hij, hp, rfl⟩
  exact mem_of_cntL (by omega)
 ·intro hx
  have := hr x hx
  have hc := cntL_of_mem (distinct_of hs) hx
  refine ⟨x.a.toNat, x.b.toNat, by omega, by omega, by omega, ?_, ?_⟩
  ·rw [show ((x.a.toNat : Nat) : Int) = x.a by omega, show ((x.b.toNat : Nat) : Int) = x.b by omega, hc]; omega
  ·rw [show ((x.a.toNat : Nat) : Int) = x.a by omega, show ((x.b.toNat : Nat) : Int) = x.b by omega, hc]
theorem join_eq {f : Nat → Nat → Int} {es : List E} {n : Nat} (hs : es.Pairwise ltE) (hr : ∀ e, e ∈ es → 0 ≤ e.a ∧ e.a ≤ e.b ∧ e.b < n ∧ 1 ≤ e.m) (hf : ∀ i j : Nat, i ≤ j → j < n → f i j = cntL es i j) : joinE f n n = es := by
 rw [joinE_congr hf n (Nat.le_refl _), join_cnt hs hr]
theorem cntL_perm {es fs : List E} (hp : es.Perm fs) (hd : distinctE es) (a b : Int) : cntL es a b = cntL fs a b := by
 have hd' : distinctE fs := (List.Perm.pairwise_iff neE.symm hp).1 hd
 by_cases h : cntL es a b = 0
 ·by_cases h2 : cntL fs a b = 0
  ·rw [h, h2]
  ·have := mem_of_cntL h2
   have := cntL_of_mem hd (hp.mem_iff.2 this)
   exact this
 ·have := mem_of_cntL h
  exact (cntL_of_mem hd' (hp.mem_iff.1 this)).symm
def rootsL (F : List Nat) (v : Nat) : List Nat := (List.range v).filter fun u => decide (rootF F 12 u = u)
def partV (F : List Nat) (v r : Nat) : List Int := ((List.range v).filter fun u => decide (rootF F 12 u = r)).map fun u : Nat => (u : Int)
def partsV (F : List Nat) (v : Nat) : List (List Int) := (rootsL F v).map (partV F v)
theorem rootsL_nodup (F : List Nat) (v : Nat) : (rootsL F v).Nodup := List.Nodup.sublist List.filter_sublist List.nodup_range
theorem rootsL_mem {F : List Nat} {v u : Nat} : u ∈ rootsL F v ↔ u < v ∧ rootF F 12 u = u := by simp [rootsL]
theorem rootsL_succ (F : List Nat) (v : Nat) : rootsL F (v + 1) = if rootF F 12 v = v then rootsL F v ++ [v] else rootsL F v := by
 unfold rootsL
 rw [List.range_succ, List.filter_append]
 by_cases h : rootF F 12 v = v <;> simp [h]
theorem rootsL_len (F : List Nat) (v : Nat) : (rootsL F v).length ≤ v := by
 unfold rootsL
 exact Nat.le_trans (List.length_filter_le _ _) (by simp)
theorem partV_succ (F : List Nat) (v r : Nat) : partV F (v + 1) r = if rootF F 12 v = r then partV F v r ++ [(v : Int)] else partV F v r := by
 unfold partV
 rw [List.range_succ, List.filter_append]
 by_cases h : rootF F 12 v = r <;> simp [h]
theorem parts_new {F : List Nat} (hF : FOk F) {v : Nat} (hv : v < 12) (h : rootF F 12 v = v) : partsV F (v + 1) = partsV F v ++ [[(v : Int)]] := by
 unfold partsV
 rw [rootsL_succ, if_pos h, List.map_append]
 congr 1
 ·refine List.map_congr_left fun r hr => ?_
  have := (rootsL_mem.1 hr).1
  rw [partV_succ, if_neg (by omega)]
 ·simp only [List.map_cons, List.map_nil]
  rw [partV_succ, if_pos h]
  have : partV F v v = [] := by
   unfold partV
   rw [List.map_eq_nil_iff, List.filter_eq_nil_iff]
   intro u hu
   have hu' := List.mem_range.1 hu
   have := rootF_le hF (n := 12) (v := u) (by omega)
   simp only [decide_eq_true_eq]; omega
  rw [this]; rfl
theorem parts_old {F : List Nat} {v k : Nat} (h : rootF F 12 v ≠ v) {r : Nat} (hk : (rootsL F v)[k]? = some r) (hr : rootF F 12 v = r) : (rootsL F (v + 1)) = rootsL F v ∧ (partsV F v)[k]? = some (partV F v r) ∧ partsV F (v + 1) = (partsV F v).set k (partV F v r ++ [(v : Int)]) := by
 have e1 : rootsL F (v + 1) = rootsL F v := by rw [rootsL_succ, if_neg h]
 refine ⟨e1, by simp [partsV, hk], ?_⟩
 unfold partsV
 rw [e1]
 apply List.ext_getElem?
 intro i
 have hkl := (List.getElem?_eq_some_iff.1 hk).1
 by_cases e : k = i
 ·subst e
  rw [List.getElem?_set_self (by simpa using hkl), List.getElem?_map, hk]
  simp only [Option.map_some]
  rw [partV_succ, if_pos hr]
 ·rw [List.getElem?_set_ne e, List.getElem?_map, List.getElem?_map]
  cases hi : (rootsL F v)[i]? with
  | none => rfl
  | some s =>
   simp only [Option.map_some]
   rw [partV_succ, if_neg]
   intro hs
   obtain ⟨hil, e2⟩ := List.getElem?_eq_some_iff.1 hi
   obtain ⟨_, e3⟩ := List.getElem?_eq_some_iff.1 hk
   have hnd := rootsL_nodup F v
   rw [List.Nodup, List.pairwise_iff_getElem] at hnd
   have e4 : (rootsL F v)[k] = (rootsL F v)[i] := by rw [e2, e3, ← hr, hs]
   rcases Nat.lt_or_gt_of_ne e with h | h
   ·exact hnd k i hkl hil h e4
   ·exact hnd i k hil hkl h e4.symm
def mR : Nat → List Nat → List (MKey × MV)
 | _, [] => []
 | b, r :: l => (.int r, .c (.int .i64 (b : Int))) :: mR (b + 1) l
theorem mR_none : ∀ (b : Nat) (l : List Nat) (r : Nat), r ∉ l → mIdx (mR b l) (.int r) = none
 | b, [], r, _ => rfl
 | b, x :: l, r, h => by
  have h1 : ¬ x = r := fun e => h (by simp [e])
  have h2 := mR_none (b + 1) l r (fun hm => h (by simp [hm]))
  unfold mIdx at h2 ⊢
  simp only [mR, List.findIdx?_cons, h2, Option.map_none]
  rw [if_neg]
  intro e
  have : (MKey.int (x : Int)) = .int r := by simpa using e
  injection this with e
  exact h1 (by omega)
theorem mR_at : ∀ (b : Nat) (l : List Nat) (k r : Nat), l.Nodup → l[k]? = some r → mIdx (mR b l) (.int r) = some k ∧ (mR b l)[k]? = some (.int r, .c (.int .i64 ((b + k : Nat) : Int)))
 | b, [], k, r, _, h => by simp at h
 | b, x :: l, 0, r, _, h => by
  simp at h; subst h
  simp [mIdx, mR, List.findIdx?_cons]
 | b, x :: l, k + 1, r, hn, h => by
  rw [List.nodup_cons] at hn
  have h' : l[k]? = some r := by simpa using h
  obtain ⟨q1, q2⟩ := mR_at (b + 1) l k r hn.2 h'
  have h1 : ¬ x = r := fun e => hn.1 (by rw [e]; exact List.mem_of_getElem? h')
  constructor
  ·unfold mIdx at q1 ⊢
   simp only [mR, List.findIdx?_cons, q1, Option.map_some]
   rw [if_neg]
   intro e
   have : (MKey.int (x : Int)) = .int r := by simpa using e
   injection this with e
   exact h1 (by omega)
  ·simp only [mR, List.getElem?_cons_succ, q2]
   rw [show b + 1 + k = b + (k + 1) by omega]
theorem mR_val {l : List Nat} {k r : Nat} (hn : l.Nodup) (h : l[k]? = some r) (z : MV) : mVal (mR 0 l) (.int r) z = .c (.int .i64 (k : Int)) := by
 obtain ⟨q1, q2⟩ := mR_at 0 l k r hn h
 unfold mVal
 simp [q1, q2]
theorem mR_snoc : ∀ (b : Nat) (l : List Nat) (r : Nat), mR b (l ++ [r]) = mR b l ++ [(.int r, .c (.int .i64 ((b + l.length : Nat) : Int)))]
 | b, [], r => by simp [mR]
 | b, x :: l, r => by
  have := mR_snoc (b + 1) l r
  simp only [List.cons_append, mR, this, List.length_cons]
  rw [show b + 1 + l.length = b + (l.length + 1) by omega]
theorem mR_put {l : List Nat} {r : Nat} (h : r ∉ l) : mPut (mR 0 l) (.int r) (.c (.int .i64 (l.length : Int))) = mR 0 (l ++ [r]) := by
 unfold mPut
 rw [mR_none 0 l r h, mR_snoc]
 simp
theorem klInts_ok : ∀ {b : Nat} {l : List Nat}, ∀ e, e ∈ mR b l → KShape.ok .int e.1 = true
 | b, [], e, h => by simp [mR] at h
 | b, x :: l, e, h => by
  rcases List.mem_cons.1 h with rfl | h
  ·rfl
  ·exact klInts_ok e h
theorem rootsN_filter (F : List Nat) (k : Nat) : rootsN F k = ((List.range k).filter fun v => decide (F[v]? = some v)).length := by
 induction k with
 | zero => rfl
 | succ k ih =>
  simp only [rootsN]
  rw [ih, List.range_succ, List.filter_append, List.length_append]
  by_cases h : F[k]? = some k <;> simp [h]
theorem cntL_put (es : List E) (a b m i j : Int) : cntL (bagPut es a b m) i j = if i = a ∧ j = b then m else cntL es i j := by
 induction es with
 | nil =>
  simp only [bagPut, cntL]
  by_cases h : i = a ∧ j = b
  ·rw [if_pos h, if_pos ⟨h.1.symm, h.2.symm⟩]
  ·rw [if_neg h, if_neg fun x => h ⟨x.1.symm, x.2.symm⟩]
 | cons x xs ih =>
  simp only [bagPut]
  by_cases hx : x.a = a ∧ x.b = b
  ·rw [if_pos hx]
   simp only [cntL]
   by_cases h : i = a ∧ j = b
   ·rw [if_pos h, if_pos ⟨h.1.symm, h.2.symm⟩]
   ·rw [if_neg h, if_neg fun x => h ⟨x.1.symm, x.2.symm⟩, if_neg fun y => h ⟨by omega, by omega⟩]
  ·rw [if_neg hx]
   simp only [cntL, ih]
   by_cases hy : x.a = i ∧ x.b = j
   ·rw [if_pos hy, if_pos hy, if_neg fun h => hx ⟨by omega, by omega⟩]
   ·rw [if_neg hy, if_neg hy]
def cG (l : List (Int × Int)) (k a b : Nat) : Int := cntL (bagL (l.take k)) a b
theorem cG_step {l : List (Int × Int)} {k n a b : Nat} {p : Int × Int} (h : l[k]? = some p) (ha : min p.1 p.2 = (a : Int)) (hb : max p.1 p.2 = (b : Int)) :
  tabF n (fun i j => if i = a ∧ j = b then cG l k a b + 1 else cG l k i j) = tabF n (cG l (k + 1)) := by
 refine tabF_congr fun i j _ _ => ?_
 unfold cG
 rw [take_snoc h, bagL_snoc, bagStep, cntL_put, ha, hb]
 by_cases e : i = a ∧ j = b
 ·rw [if_pos e, if_pos ⟨by omega, by omega⟩]
 ·rw [if_neg e, if_neg fun x => e ⟨by omega, by omega⟩]
def okP (n : Int) (p : Int × Int) : Prop := (0 ≤ p.1 ∧ p.1 < n) ∧ (0 ≤ p.2 ∧ p.2 < n)
theorem MakeR_ok (n : Int) (l : List (Int × Int)) (hl : l.length < 2 ^ 40) : ACall Try.prog 70 [tint n, tpairs l] (.tup [tG (makeE n l).1, tint (makeE n l).2]) := by
 refine ACall.of_body Try.func70 rfl (by kernel_rfl) ?_
 simp only [entry, Try.ntmps70, tint, tpairs]
 refine zU ?_
 by_cases hn : n < 1 ∨ 12 < n
 ·
  have e : makeE n l = (⟨0, []⟩, 2) := by unfold makeE; rw [if_pos hn]
  by_cases hn1 : n < 1
  ·
   refine zR (zc @hn1 trivial) trivial trivial ?_
   simp [Rets, aret, Blk.cells, ty, Try.results70, ares, toT1, toT, borrow, borrow0, capCell, toTree0, tint, tG, e, eRows]
  ·have hn2 : 12 < n := by omega
   refine zR (zc @hn1 (zc @hn2 trivial)) trivial trivial ?_
   simp [Rets, aret, Blk.cells, ty, Try.results70, ares, toT1, toT, borrow, borrow0, capCell, toTree0, tint, tG, e, eRows]
 have hn1 : ¬ n < 1 := by omega
 have hn2 : ¬ 12 < n := by omega
 by_cases hlen : (4096 : Int) < (l.length : Int)
 ·
  have e : makeE n l = (⟨0, []⟩, 5) := by unfold makeE; rw [if_neg hn, if_pos (by omega)]
  refine zR (zc @hn1 (zc @hn2 (zc @pRows_len (zc @hlen trivial)))) trivial trivial ?_
  simp [Rets, aret, Blk.cells, ty, Try.results70, ares, toT1, toT, borrow, borrow0, capCell, toTree0, tint, tG, e, eRows]
 obtain ⟨m, hm⟩ : ∃ m : Nat, n = m := ⟨n.toNat, by omega⟩
 subst hm
 have hT1 := Table1_ok m (by omega)
 have hc0 : ∀ a b, cG l 0 a b = 0 := fun a b => rfl
 rw [rep_tab m (cG l 0) hc0] at hT1
 repeat' (first|((first|(refine zT ?_;intro K' hK')|(refine zG ?_ ?_<;>(try refine zH ?_)<;>intro hguard<;>(try exact zX)<;>try intro K' hK'))<;>((try simp +contextual only [go_sem, hn1, hn2, pRows_len, hlen]);(repeat' first|(with_reducible refine hK' _ _ ?_;clear hK' K')|((with_reducible first|refine ⟨_,_,hT1,?_⟩|refine ⟨_,hT1,?_⟩);try simp +contextual only [go_sem, hn1, hn2, pRows_len, hlen])|exact zY|with_reducible refine And.intro ?_ ?_|(with_reducible intro hpath;try exact zP)|(refine hK' _ _ ?_;clear hK' K')|fail);try refine zS ?_))|(refine zE ?_;refine hK _ _ ?_;clear hK K)|(refine zN ?_;try refine zS ?_)|refine zA ?_|(refine zB ?_;intro K hK)|(refine zC ?_ ?_<;>(try refine zH ?_)<;>intro hcond<;>try exact zX)|fail)
 refine AWp.loopS (α:=Nat) 93 (fun k=>[(0,.c (.int .i64 (m : Int))),(1,.c (.slice (pRows l) .none)),(4,.c (.ptr 0 0)),(6,.c (.rows (refsT 2 m m) (.chain 1))),(7,.c (.int .i64 (k : Int)))]) (fun k=>.box [.int .i64 0, .nils] :: .chain m 1 :: (tabF m (cG l k)).map rowB) (fun k=>k ≤ l.length ∧ (∀ j, j < k → ∀ p, l[j]? = some p → okP m p) ∧ BagOk m k (bagL (l.take k))) (fun k=>l.length - k) (0) (hk:=Weak.headL (m + 2) 93 [0, 1, 4, 6, 7] (by (repeat' (first | exact valsIn_nil _ | exact blksIn_nil _ | exact cellsIn_nil _ | refine And.intro ?_ ?_ | refine valsIn_cons ?_ ?_ | refine blksIn_cons ?_ ?_ | refine cellsIn_cons ?_ ?_ | exact True.intro | exact refsT_in (by omega) | exact blksIn_rep | exact blksIn_tab | (show _ < _; omega) | exact cellsIn_map (fun _ => True.intro) | (intro c hc; cases hc; done) | (intro c hc; simp only [List.mem_cons, List.not_mem_nil, or_false] at hc; subst hc; exact True.intro) | (intro c hc; simp only [List.mem_cons, List.not_mem_nil, or_false] at hc; rcases hc with rfl | rfl <;> exact True.intro))))) (h0:=?_) (round:=fun k hI=>?_)
 ·exact ⟨Nat.zero_le _, fun j hj => by omega, List.Pairwise.nil, by simp [bagL], by simp [bagL], by simp [bagL]⟩
 ·obtain ⟨hk, hok, hbag⟩ := hI
  by_cases hlt : k < l.length
  ·have e0 := List.getElem?_eq_getElem hlt
   have e1 := pRows_get e0
   generalize l[k] = p at *
   by_cases hp : okP m p
   case neg =>
    have e : makeE m l = (⟨0, []⟩, 2) := by
     unfold makeE
     rw [if_neg hn, if_neg (by omega), if_pos ⟨p, List.mem_of_getElem? e0, hp⟩]
    unfold okP at hp
    repeat' (first|((first|(refine zT ?_;intro K' hK')|(refine zG ?_ ?_<;>(try refine zH ?_)<;>intro hguard<;>(try exact zX)<;>try intro K' hK'))<;>((try simp +contextual only [go_sem, e1, pRows_len, Int.toNat_natCast, Int.ofNat_lt]);(repeat' first|(with_reducible refine hK' _ _ ?_;clear hK' K')|exact zY|with_reducible refine And.intro ?_ ?_|(with_reducible intro hpath;try exact zP)|(refine hK' _ _ ?_;clear hK' K')|fail);try refine zS ?_))|(refine zE ?_;refine hK _ _ ?_;clear hK K)|(refine zN ?_;try refine zS ?_)|refine zA ?_|(refine zB ?_;intro K hK)|(refine zC ?_ ?_<;>(try refine zH ?_)<;>intro hcond<;>try exact zX)|fail)
    all_goals
     first
     | (exfalso; omega)
     | skip
    all_goals
     simp [Rets, aret, Blk.cells, ty, Try.results70, ares, toT1, toT, borrow, borrow0, capCell, toTree0, tint, tG, e, eRows]
   obtain ⟨⟨p1, p2⟩, ⟨p3, p4⟩⟩ := hp
   obtain ⟨a, ha⟩ : ∃ a : Nat, min p.1 p.2 = a := ⟨(min p.1 p.2).toNat, by omega⟩
   obtain ⟨b, hb⟩ : ∃ b : Nat, max p.1 p.2 = b := ⟨(max p.1 p.2).toNat, by omega⟩
   have ham : a < m := by omega
   have hbm : b < m := by omega
   have hst := cG_step (n := m) e0 ha hb
   have hr := refsT_get (base := 2) (n := m) ham
   have hrow := tabF_row (cG l k) ham
   have hg1 := tab_get hrow
   have hset := tabF_set (cG l k) ham hbm (cG l k a b + 1)
   rw [hst] at hset
   have hcb : 0 ≤ cG l k a b ∧ cG l k a b ≤ k := ⟨cntL_ge fun e he => (hbag.m e he).1, cntL_le (fun e he => (hbag.m e he).2) (by omega)⟩
   have hrl : ((List.range m).map fun b => cG l k a b).length = m := by simp
   have hrg : ((List.range m).map fun b => cG l k a b)[b]? = some (cG l k a b) := by simp [hbm]
   have hic := iC_get hrg
   have hbag2 : BagOk m (k + 1) (bagL (l.take (k + 1))) := by
    rw [take_snoc e0, bagL_snoc]; exact bag_step hbag ⟨p1, p2⟩ ⟨p3, p4⟩
   have q1 : ¬ p.1 < 0 := by omega
   have q2 : ¬ (m : Int) ≤ p.1 := by omega
   have q3 : ¬ p.2 < 0 := by omega
   have q4 : ¬ (m : Int) ≤ p.2 := by omega
   have hTn : tabF m (cG l (k + 1)) = tabF m (cG l (k + 1)) := rfl
   generalize ((List.range m).map fun b => cG l k a b) = row at *
   generalize tabF m (cG l k) = T at *
   generalize cG l k a b = x at *
   refine zR (zc @e1 (zc @pRows_len (zc @Int.ofNat_lt (zc @q1 (zc @q2 (zc @q3 (zc @q4 (zc @ha (zc @hb (zc @hr (zc @hg1 (zc @hic (zc @iC_len (zc @hrl (zc @iC_set (zc @tab_set (zc @hset trivial))))))))))))))))) trivial trivial ?_
   refine ⟨k + 1,Weak.headN (m + 2) 93 [0, 1, 4, 6, 7] (by (repeat' (first | exact valsIn_nil _ | exact blksIn_nil _ | exact cellsIn_nil _ | refine And.intro ?_ ?_ | refine valsIn_cons ?_ ?_ | refine blksIn_cons ?_ ?_ | refine cellsIn_cons ?_ ?_ | exact True.intro | exact refsT_in (by omega) | exact blksIn_rep | exact blksIn_tab | (show _ < _; omega) | exact cellsIn_map (fun _ => True.intro) | (intro c hc; cases hc; done) | (intro c hc; simp only [List.mem_cons, List.not_mem_nil, or_false] at hc; subst hc; exact True.intro) | (intro c hc; simp only [List.mem_cons, List.not_mem_nil, or_false] at hc; rcases hc with rfl | rfl <;> exact True.intro)))),?_,?_⟩
   ·refine ⟨hlt, fun j hj q hq => ?_, hbag2⟩
    by_cases hjk : j = k
    ·subst hjk
     rw [e0] at hq; cases hq
     exact ⟨⟨p1, p2⟩, ⟨p3, p4⟩⟩
    ·exact hok j (by omega) q hq
   ·omega
  ·have ek : k = l.length := by omega
   rw [ek] at hbag hok ⊢
   have hcl : ∀ a b, cG l l.length a b = cntL (bagL l) a b := fun a b => by unfold cG; rw [List.take_length]
   rw [List.take_length] at hbag
   have hnob : ¬ ∃ p, p ∈ l ∧ ¬ ((0 ≤ p.1 ∧ p.1 < (m : Int)) ∧ (0 ≤ p.2 ∧ p.2 < (m : Int))) := by
    rintro ⟨p, hp, hx⟩
    obtain ⟨j, hj⟩ := List.mem_iff_getElem?.1 hp
    exact hx (hok j (List.getElem?_eq_some_iff.1 hj).1 p hj)
   refine zR (zc @pRows_len (zc @Int.ofNat_lt trivial)) trivial trivial ?_
   refine AWp.loopS (α:=Nat) 93 (fun a=>[(0,.c (.int .i64 (m : Int))),(4,.c (.ptr 0 0)),(6,.c (.rows (refsT 2 m m) (.chain 1))),(10,.c (.int .i64 (a : Int)))]) (fun a=>.box [.int .i64 0, .nils] :: .chain m 1 :: (tabF m (cG l l.length)).map rowB) (fun a=>a ≤ m ∧ ∀ i j : Nat, i < a → j < m → cG l l.length i j ≤ 50) (fun a=>m - a) (0) (hk:=Weak.headL (m + 2) 93 [0, 4, 6, 10] (by (repeat' (first | exact valsIn_nil _ | exact blksIn_nil _ | exact cellsIn_nil _ | refine And.intro ?_ ?_ | refine valsIn_cons ?_ ?_ | refine blksIn_cons ?_ ?_ | refine cellsIn_cons ?_ ?_ | exact True.intro | exact refsT_in (by omega) | exact blksIn_rep | exact blksIn_tab | (show _ < _; omega) | exact cellsIn_map (fun _ => True.intro) | (intro c hc; cases hc; done) | (intro c hc; simp only [List.mem_cons, List.not_mem_nil, or_false] at hc; subst hc; exact True.intro) | (intro c hc; simp only [List.mem_cons, List.not_mem_nil, or_false] at hc; rcases hc with rfl | rfl <;> exact True.intro))))) (h0:=?_) (round:=fun a hI=>?_)
   ·exact ⟨Nat.zero_le _, fun i j hi => by omega⟩
   ·obtain ⟨ha, hA⟩ := hI
    by_cases hlta : a < m
    ·have hltaI : (a : Int) < m := by omega
     refine zR (zc @hltaI trivial) trivial trivial ?_
     refine AWp.loopS (α:=Nat) 93 (fun b=>[(0,.c (.int .i64 (m : Int))),(4,.c (.ptr 0 0)),(6,.c (.rows (refsT 2 m m) (.chain 1))),(10,.c (.int .i64 (a : Int))),(11,.c (.int .i64 (b : Int)))]) (fun b=>.box [.int .i64 0, .nils] :: .chain m 1 :: (tabF m (cG l l.length)).map rowB) (fun b=>b ≤ m ∧ ∀ j : Nat, j < b → cG l l.length a j ≤ 50) (fun b=>m - b) (0) (hk:=Weak.headL (m + 2) 93 [0, 4, 6, 10, 11] (by (repeat' (first | exact valsIn_nil _ | exact blksIn_nil _ | exact cellsIn_nil _ | refine And.intro ?_ ?_ | refine valsIn_cons ?_ ?_ | refine blksIn_cons ?_ ?_ | refine cellsIn_cons ?_ ?_ | exact True.intro | exact refsT_in (by omega) | exact blksIn_rep | exact blksIn_tab | (show _ < _; omega) | exact cellsIn_map (fun _ => True.intro) | (intro c hc; cases hc; done) | (intro c hc; simp only [List.mem_cons, List.not_mem_nil, or_false] at hc; subst hc; exact True.intro) | (intro c hc; simp only [List.mem_cons, List.not_mem_nil, or_false] at hc; rcases hc with rfl | rfl <;> exact True.intro))))) (h0:=?_) (round:=fun b hI=>?_)
     ·exact ⟨Nat.zero_le _, fun j hj => by omega⟩
     ·obtain ⟨hb, hB⟩ := hI
      by_cases hltb : b < m
      ·have hltbI : (b : Int) < m := by omega
       have hr := refsT_get (base := 2) (n := m) hlta
       have hrow := tabF_row (cG l l.length) hlta
       have hg1 := tab_get hrow
       have hrl : ((List.range m).map fun b => cG l l.length a b).length = m := by simp
       have hrg : ((List.range m).map fun b => cG l l.length a b)[b]? = some (cG l l.length a b) := by simp [hltb]
       have hic := iC_get hrg
       by_cases hbig : 50 < cG l l.length a b
       ·have e : makeE m l = (⟨0, []⟩, 5) := by
         unfold makeE
         rw [if_neg hn, if_neg (by omega), if_neg hnob, if_pos ⟨_, mem_of_cntL (es := bagL l) (a := a) (b := b) (by rw [← hcl]; omega), by simp only; rw [← hcl]; exact hbig⟩]
        generalize ((List.range m).map fun b => cG l l.length a b) = row at *
        generalize tabF m (cG l l.length) = T at *
        generalize cG l l.length a b = x at *
        refine zR (zc @hltbI (zc @hr (zc @hg1 (zc @hic (zc @iC_len (zc @hrl (zc @hbig trivial))))))) trivial trivial ?_
        simp [Rets, aret, Blk.cells, ty, Try.results70, ares, toT1, toT, borrow, borrow0, capCell, toTree0, tint, tG, e, eRows]
       ·generalize ((List.range m).map fun b => cG l l.length a b) = row at *
        generalize hxx : cG l l.length a b = x at *
        refine zR (zc @hltbI (zc @hr (zc @hg1 (zc @hic (zc @iC_len (zc @hrl (zc @hbig trivial))))))) trivial trivial ?_
        refine ⟨b + 1,Weak.headN (m + 2) 93 [0, 4, 6, 10, 11] (by (repeat' (first | exact valsIn_nil _ | exact blksIn_nil _ | exact cellsIn_nil _ | refine And.intro ?_ ?_ | refine valsIn_cons ?_ ?_ | refine blksIn_cons ?_ ?_ | refine cellsIn_cons ?_ ?_ | exact True.intro | exact refsT_in (by omega) | exact blksIn_rep | exact blksIn_tab | (show _ < _; omega) | exact cellsIn_map (fun _ => True.intro) | (intro c hc; cases hc; done) | (intro c hc; simp only [List.mem_cons, List.not_mem_nil, or_false] at hc; subst hc; exact True.intro) | (intro c hc; simp only [List.mem_cons, List.not_mem_nil, or_false] at hc; rcases hc with rfl | rfl <;> exact True.intro)))),?_,?_⟩
        ·refine ⟨hltb, fun j hj => ?_⟩
         by_cases e : j = b
         ·subst e; omega
         ·exact hB j (by omega)
        ·omega
      ·have eb : b = m := by omega
       have hnl : ¬ ((b : Int) < m) := by omega
       refine zR (zc @hnl trivial) trivial trivial ?_
       refine ⟨a + 1,Weak.headN (m + 2) 93 [0, 4, 6, 10] (by (repeat' (first | exact valsIn_nil _ | exact blksIn_nil _ | exact cellsIn_nil _ | refine And.intro ?_ ?_ | refine valsIn_cons ?_ ?_ | refine blksIn_cons ?_ ?_ | refine cellsIn_cons ?_ ?_ | exact True.intro | exact refsT_in (by omega) | exact blksIn_rep | exact blksIn_tab | (show _ < _; omega) | exact cellsIn_map (fun _ => True.intro) | (intro c hc; cases hc; done) | (intro c hc; simp only [List.mem_cons, List.not_mem_nil, or_false] at hc; subst hc; exact True.intro) | (intro c hc; simp only [List.mem_cons, List.not_mem_nil, or_false] at hc; rcases hc with rfl | rfl <;> exact True.intro)))),?_,?_⟩
       ·refine ⟨hlta, fun i j hi hj => ?_⟩
        by_cases e : i = a
        ·subst e; exact hB j (by omega)
        ·exact hA i j (by omega) hj
       ·omega
    ·have ea : a = m := by omega
     have hnl : ¬ ((a : Int) < m) := by omega
     have hno5 : ¬ ∃ e, e ∈ bagL l ∧ 50 < e.m := by
      rintro ⟨e, he, hx⟩
      have hr := hbag.r e he
      have hc := cntL_of_mem hbag.d he
      have := hA e.a.toNat e.b.toNat (by omega) (by omega)
      rw [hcl, show ((e.a.toNat : Nat) : Int) = e.a by omega, show ((e.b.toNat : Nat) : Int) = e.b by omega, hc] at this
      omega
     have e : makeE m l = (⟨m, sortE (bagL l)⟩, 0) := by
      unfold makeE
      rw [if_neg hn, if_neg (by omega), if_neg hnob, if_neg hno5]
     have hperm := sortE_perm (bagL l)
     have hj := join_eq (f := cellT (tabF m (cG l l.length))) (es := sortE (bagL l)) (n := m) (sortE_sorted hbag.d) (fun x hx => by
      have h1 := hbag.r x (hperm.mem_iff.1 hx)
      have h2 := hbag.m x (hperm.mem_iff.1 hx)
      omega) (fun i j hij hj => by
      rw [tabF_cell _ (by omega) hj, hcl]
      exact (cntL_perm hperm ((List.Perm.pairwise_iff neE.symm hperm).2 hbag.d) i j).symm)
     have hJ := Joined_ok m (tabF m (cG l l.length)) (by omega) (tabF_sq _ _)
     rw [hj] at hJ
     refine table_data [.box [.int .i64 0, .nils], .chain m 1] 6 (.chain 1) m (tabF m (cG l l.length)) (tabF_sq _ _) rfl ?_
     simp only [List.set_cons_succ, List.set_cons_zero, List.cons_append, List.nil_append]
     refine zR (zc @hnl trivial) (zc hJ trivial) trivial ?_
     simp [Rets, aret, Blk.cells, ty, Try.results70, ares, toT1, toT, borrow, borrow0, capCell, toTree0, tint, tG, e]
end Go.Proofs.Ytgklecfiflhjmaa
