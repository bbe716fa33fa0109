/- A part of the proof: contracts of functions of the program, and plain lemmas. -/
import Derived.Test.YtfkegnhpihoncaaGreatLayerA
import Derived.Test.YtfkegnhpihoncaaGreatLayerC
set_option linter.all false
namespace Go.Proofs.YtfkegnhpihoncaaGreat
set_option linter.unusedSimpArgs false
set_option linter.unusedVariables false
structure PermN (N : Nat) (f : Nat → Nat) : Prop where
  lt : ∀ x, x < N → f x < N
  inj : ∀ x y, x < N → y < N → f x = f y → x = y
def it (f : Nat → Nat) : Nat → Nat → Nat
  | 0, x => x
  | k + 1, x => f (it f k x)
theorem it_add (f : Nat → Nat) (a b x : Nat) : it f (a + b) x = it f a (it f b x) := by
  induction a with
  | zero => rw [Nat.zero_add]; rfl
  | succ a ih => rw [show a + 1 + b = (a + b) + 1 by omega]; simp only [it, ih]
section
variable {N : Nat} {f : Nat → Nat}
theorem PermN.it_lt (h : PermN N f) {x : Nat} (hx : x < N) (k : Nat) : it f k x < N := by
  induction k with
  | zero => exact hx
  | succ k ih => exact h.lt _ ih
theorem PermN.it_inj (h : PermN N f) {x y : Nat} (hx : x < N) (hy : y < N) (k : Nat) (e : it f k x = it f k y) : x = y := by
  induction k with
  | zero => exact e
  | succ k ih => exact ih (h.inj _ _ (h.it_lt hx k) (h.it_lt hy k) e)
theorem PermN.period (h : PermN N f) {x : Nat} (hx : x < N) : ∃ p, 1 ≤ p ∧ p ≤ N ∧ it f p x = x := by
  apply Classical.byContradiction
  intro hc
  have hne : ∀ i j : Nat, i < j → j ≤ N → it f i x ≠ it f j x := fun i j hij hj e => by
    refine hc ⟨j - i, by omega, by omega, ?_⟩
    have e2 : it f j x = it f i (it f (j - i) x) := by rw [← it_add]; congr 1; omega
    rw [e2] at e
    exact (h.it_inj hx (h.it_lt hx _) i e).symm
  have hnd : ((List.range (N + 1)).map fun k => it f k x).Nodup := by
    rw [List.Nodup, List.pairwise_map]
    exact List.pairwise_lt_range.imp_of_mem fun {a b} ha hb hab => hne a b hab (by have := List.mem_range.1 hb; omega)
  have hle := List.Nodup.length_le_of_subset hnd (l₂ := List.range N) (fun y hy => by
    obtain ⟨k, _, rfl⟩ := List.mem_map.1 hy
    exact List.mem_range.2 (h.it_lt hx k))
  simp at hle
  omega
def orbGo (f : Nat → Nat) (h : Nat) : Nat → Nat → List Nat
  | 0, _ => []
  | n + 1, x => if x = h then [] else x :: orbGo f h n (f x)
def faceF (f : Nat → Nat) (N h : Nat) : List Nat := h :: orbGo f h N (f h)
theorem orbGo_eq (f : Nat → Nat) (h : Nat) : ∀ (n k p : Nat), k ≤ p → p ≤ k + n → it f p h = h → (∀ i, k ≤ i → i < p → it f i h ≠ h) → orbGo f h n (it f k h) = (List.range (p - k)).map fun i => it f (k + i) h := by
  intro n
  induction n with
  | zero =>
    intro k p h1 h2 _ _
    rw [show p - k = 0 by omega]; rfl
  | succ n ih =>
    intro k p h1 h2 h3 h4
    by_cases e : k = p
    · subst e
      rw [Nat.sub_self]
      simp only [orbGo, h3, if_true, List.range_zero, List.map_nil]
    · have hk := h4 k (Nat.le_refl _) (by omega)
      simp only [orbGo, if_neg hk]
      have := ih (k + 1) p (by omega) (by omega) h3 fun i hi => h4 i (by omega)
      have e1 : f (it f k h) = it f (k + 1) h := rfl
      rw [e1, this, show p - k = (p - (k + 1)) + 1 by omega, List.range_succ_eq_map]
      simp only [List.map_cons, Nat.add_zero, List.map_map]
      congr 1
      refine List.map_congr_left fun i _ => ?_
      simp only [Function.comp]
      rw [show k + 1 + i = k + Nat.succ i by omega]
theorem least_period {f : Nat → Nat} {h : Nat} : ∀ p : Nat, 1 ≤ p → it f p h = h → ∃ q, 1 ≤ q ∧ q ≤ p ∧ it f q h = h ∧ ∀ i, 1 ≤ i → i < q → it f i h ≠ h := by
  intro p
  induction p using Nat.strongRecOn with
  | _ p ih =>
    intro h1 h2
    by_cases hx : ∃ i, 1 ≤ i ∧ i < p ∧ it f i h = h
    · obtain ⟨i, h3, h4, h5⟩ := hx
      obtain ⟨q, q1, q2, q3⟩ := ih i h4 h3 h5
      exact ⟨q, q1, by omega, q3⟩
    · exact ⟨p, h1, Nat.le_refl _, h2, fun i h3 h4 h5 => hx ⟨i, h3, h4, h5⟩⟩
theorem face_spec (hp : PermN N f) {h : Nat} (hh : h < N) : ∃ p, 1 ≤ p ∧ p ≤ N ∧ it f p h = h ∧ (∀ i, 1 ≤ i → i < p → it f i h ≠ h) ∧ faceF f N h = (List.range p).map fun i => it f i h := by
  obtain ⟨p0, h1, h2, h3⟩ := hp.period hh
  obtain ⟨p, q1, q2, q3, q4⟩ := least_period p0 h1 h3
  refine ⟨p, q1, by omega, q3, q4, ?_⟩
  have := orbGo_eq f h N 1 p q1 (by omega) q3 fun i hi => q4 i hi
  unfold faceF
  have e1 : f h = it f 1 h := rfl
  rw [e1, this]
  obtain ⟨m, rfl⟩ : ∃ m, p = m + 1 := ⟨p - 1, by omega⟩
  rw [Nat.add_sub_cancel, List.range_succ_eq_map]
  simp only [List.map_cons, List.map_map]
  congr 1
  refine List.map_congr_left fun i _ => ?_
  simp only [Function.comp]
  rw [show 1 + i = Nat.succ i by omega]
theorem it_mod {p h : Nat} (hp : 1 ≤ p) (e : it f p h = h) (i : Nat) : it f i h = it f (i % p) h := by
  have hm : ∀ k, it f (k * p) h = h := fun k => by
    induction k with
    | zero => rw [Nat.zero_mul]; rfl
    | succ k ih => rw [Nat.succ_mul, it_add, e, ih]
  have := Nat.div_add_mod i p
  calc it f i h = it f (i % p + (i / p) * p) h := by rw [Nat.mul_comm, Nat.add_comm, this]
    _ = it f (i % p) h := by rw [it_add, hm]
theorem face_mem (hp : PermN N f) {h : Nat} (hh : h < N) {y : Nat} : y ∈ faceF f N h ↔ ∃ i, y = it f i h := by
  obtain ⟨p, h1, h2, h3, h4, h5⟩ := face_spec hp hh
  rw [h5]
  constructor
  · intro hy
    obtain ⟨i, _, rfl⟩ := List.mem_map.1 hy
    exact ⟨i, rfl⟩
  · rintro ⟨i, rfl⟩
    rw [it_mod h1 h3 i]
    exact List.mem_map.2 ⟨i % p, List.mem_range.2 (Nat.mod_lt _ (by omega)), rfl⟩
theorem face_lt (hp : PermN N f) {h : Nat} (hh : h < N) {y : Nat} (hy : y ∈ faceF f N h) : y < N := by
  obtain ⟨i, rfl⟩ := (face_mem hp hh).1 hy
  exact hp.it_lt hh i
theorem face_self (f : Nat → Nat) (N h : Nat) : h ∈ faceF f N h := by simp [faceF]
theorem face_symm (hp : PermN N f) {h y : Nat} (hh : h < N) (hy : y ∈ faceF f N h) : h ∈ faceF f N y := by
  have hyl := face_lt hp hh hy
  obtain ⟨i, rfl⟩ := (face_mem hp hh).1 hy
  obtain ⟨p, h1, h2, h3, h4, h5⟩ := face_spec hp hh
  refine (face_mem hp hyl).2 ⟨p - i % p, ?_⟩
  rw [it_mod h1 h3 i, ← it_add, show p - i % p + i % p = p by have := Nat.mod_lt i (show p > 0 by omega); omega, h3]
theorem face_trans (hp : PermN N f) {h y z : Nat} (hh : h < N) (hy : y ∈ faceF f N h) (hz : z ∈ faceF f N y) : z ∈ faceF f N h := by
  have hyl := face_lt hp hh hy
  obtain ⟨i, rfl⟩ := (face_mem hp hh).1 hy
  obtain ⟨j, rfl⟩ := (face_mem hp hyl).1 hz
  exact (face_mem hp hh).2 ⟨j + i, by rw [it_add]⟩
theorem face_len (hp : PermN N f) {h : Nat} (hh : h < N) : (faceF f N h).length ≤ N := by
  obtain ⟨p, h1, h2, h3, h4, h5⟩ := face_spec hp hh
  rw [h5]; simpa using h2
theorem face_nodup (hp : PermN N f) {h : Nat} (hh : h < N) : (faceF f N h).Nodup := by
  obtain ⟨p, h1, h2, h3, h4, h5⟩ := face_spec hp hh
  rw [h5, List.Nodup, List.pairwise_map]
  refine List.pairwise_lt_range.imp_of_mem fun {a b} ha hb hab e => ?_
  have hb' := List.mem_range.1 hb
  have e2 : it f b h = it f a (it f (b - a) h) := by rw [← it_add]; congr 1; omega
  rw [e2] at e
  exact h4 (b - a) (by omega) (by omega) (hp.it_inj hh (hp.it_lt hh _) a e).symm
def leadB (f : Nat → Nat) (N h : Nat) : Bool := (faceF f N h).all fun y => decide (h ≤ y)
def leadsL (f : Nat → Nat) (N k : Nat) : List Nat := (List.range k).filter (leadB f N)
def facesN (f : Nat → Nat) (N k : Nat) : List (List Nat) := (leadsL f N k).map (faceF f N)
def ofN (f : Nat → Nat) (N k x : Nat) : Int :=
  match (facesN f N k).findIdx? (fun l => decide (x ∈ l)) with
  | some i => i
  | none => -1
theorem leadB_iff {h : Nat} : leadB f N h = true ↔ ∀ y, y ∈ faceF f N h → h ≤ y := by simp [leadB]
theorem leadsL_mem {k h : Nat} : h ∈ leadsL f N k ↔ h < k ∧ leadB f N h = true := by simp [leadsL]
theorem leadsL_succ (k : Nat) : leadsL f N (k + 1) = if leadB f N k = true then leadsL f N k ++ [k] else leadsL f N k := by
  unfold leadsL
  rw [List.range_succ, List.filter_append]
  cases h : leadB f N k <;> simp [h]
theorem facesN_succ (k : Nat) : facesN f N (k + 1) = if leadB f N k = true then facesN f N k ++ [faceF f N k] else facesN f N k := by
  unfold facesN
  rw [leadsL_succ]
  cases h : leadB f N k <;> simp
theorem least_mem {l : List Nat} (h : l ≠ []) : ∃ m, m ∈ l ∧ ∀ y, y ∈ l → m ≤ y := by
  induction l with
  | nil => exact absurd rfl h
  | cons x l ih =>
    by_cases e : l = []
    · subst e; exact ⟨x, by simp, fun y hy => by simp at hy; omega⟩
    · obtain ⟨m, h1, h2⟩ := ih e
      by_cases hx : x ≤ m
      · exact ⟨x, by simp, fun y hy => by
          rcases List.mem_cons.1 hy with rfl | hy
          · exact Nat.le_refl _
          · exact Nat.le_trans hx (h2 y hy)⟩
      · exact ⟨m, by simp [h1], fun y hy => by
          rcases List.mem_cons.1 hy with rfl | hy
          · omega
          · exact h2 y hy⟩
theorem lead_of (hp : PermN N f) {h : Nat} (hh : h < N) : ∃ m, m ≤ h ∧ leadB f N m = true ∧ h ∈ faceF f N m ∧ (leadB f N h = false → m < h) := by
  obtain ⟨m, h1, h2⟩ := least_mem (l := faceF f N h) (by simp [faceF])
  have hml := face_lt hp hh h1
  have hs := face_symm hp hh h1
  refine ⟨m, h2 h (face_self f N h), leadB_iff.2 fun y hy => h2 y (face_trans hp hh h1 hy), hs, fun hb => ?_⟩
  rcases Nat.lt_or_eq_of_le (h2 h (face_self f N h)) with h3 | h3
  · exact h3
  · subst h3
    rw [leadB_iff.2 h2] at hb; cases hb
theorem lead_unique (hp : PermN N f) {a b x : Nat} (ha : a < N) (hb : b < N) (la : leadB f N a = true) (lb : leadB f N b = true) (xa : x ∈ faceF f N a) (xb : x ∈ faceF f N b) : a = b := by
  have h1 : b ∈ faceF f N a := face_trans hp ha xa (face_symm hp hb xb)
  have h2 : a ∈ faceF f N b := face_symm hp ha h1
  have := leadB_iff.1 la b h1
  have := leadB_iff.1 lb a h2
  omega
theorem ofN_neg (hp : PermN N f) {k : Nat} (hk : k < N) : ofN f N k k < 0 ↔ leadB f N k = true := by
  unfold ofN
  constructor
  · intro h
    cases hb : leadB f N k with
    | true => rfl
    | false =>
      obtain ⟨m, h1, h2, h3, h4⟩ := lead_of hp hk
      have hm := h4 hb
      cases hx : (facesN f N k).findIdx? (fun l => decide (k ∈ l)) with
      | some i => rw [hx] at h; simp only at h; omega
      | none =>
        exfalso
        rw [List.findIdx?_eq_none_iff] at hx
        have := hx (faceF f N m) (List.mem_map.2 ⟨m, leadsL_mem.2 ⟨hm, h2⟩, rfl⟩)
        simp [h3] at this
  · intro hb
    cases hx : (facesN f N k).findIdx? (fun l => decide (k ∈ l)) with
    | none => simp
    | some i =>
      exfalso
      obtain ⟨hi, hd, _⟩ := List.findIdx?_eq_some_iff_getElem.1 hx
      have hmem : (facesN f N k)[i] ∈ facesN f N k := List.getElem_mem hi
      obtain ⟨a, ha, e⟩ := List.mem_map.1 hmem
      obtain ⟨h1, h2⟩ := leadsL_mem.1 ha
      have hka : k ∈ faceF f N a := by rw [e]; simpa using hd
      have := lead_unique hp (by omega) hk h2 hb hka (face_self f N k)
      omega
theorem ofN_succ (hp : PermN N f) {k : Nat} (hk : k < N) (hb : leadB f N k = true) {x : Nat} : ofN f N (k + 1) x = if x ∈ faceF f N k then ((facesN f N k).length : Int) else ofN f N k x := by
  unfold ofN
  rw [facesN_succ, if_pos hb, List.findIdx?_append]
  by_cases hx : x ∈ faceF f N k
  · rw [if_pos hx]
    have hn : (facesN f N k).findIdx? (fun l => decide (x ∈ l)) = none := by
      rw [List.findIdx?_eq_none_iff]
      intro l hl
      obtain ⟨a, ha, rfl⟩ := List.mem_map.1 hl
      obtain ⟨h1, h2⟩ := leadsL_mem.1 ha
      rw [decide_eq_false_iff_not]
      intro hxa
      have := lead_unique hp (by omega) hk h2 hb hxa hx
      omega
    rw [hn]
    simp [List.findIdx?_cons, hx]
  · rw [if_neg hx]
    cases hc : (facesN f N k).findIdx? (fun l => decide (x ∈ l)) with
    | some i => simp
    | none => simp [List.findIdx?_cons, hx]
theorem ofN_same {k : Nat} (hb : leadB f N k = false) {x : Nat} : ofN f N (k + 1) x = ofN f N k x := by
  unfold ofN; rw [facesN_succ, hb]; simp
end
end Go.Proofs.YtfkegnhpihoncaaGreat
set_option linter.all false
namespace Go.Proofs.YtfkegnhpihoncaaGreat
open Go.Sp
set_option linter.unusedSimpArgs false
set_option linter.unusedVariables false
section
variable {N : Nat} {f : Nat → Nat}
theorem flat_faces (hp : PermN N f) : (facesN f N N).flatten.Perm (List.range N) := by
  rw [List.perm_ext_iff_of_nodup ?_ List.nodup_range]
  · intro x
    rw [List.mem_flatten, List.mem_range]
    constructor
    · rintro ⟨l, hl, hx⟩
      obtain ⟨a, ha, rfl⟩ := List.mem_map.1 hl
      exact face_lt hp (leadsL_mem.1 ha).1 hx
    · intro hx
      obtain ⟨m, h1, h2, h3, _⟩ := lead_of hp hx
      exact ⟨_, List.mem_map.2 ⟨m, leadsL_mem.2 ⟨by omega, h2⟩, rfl⟩, h3⟩
  · rw [List.Nodup, List.pairwise_flatten]
    refine ⟨fun l hl => ?_, ?_⟩
    · obtain ⟨a, ha, rfl⟩ := List.mem_map.1 hl
      exact face_nodup hp (leadsL_mem.1 ha).1
    · unfold facesN
      rw [List.pairwise_map]
      have hn : (leadsL f N N).Nodup := List.Nodup.sublist List.filter_sublist List.nodup_range
      refine List.Pairwise.imp_of_mem (fun {a b} ha hb hab x hx y hy e => ?_) hn
      subst e
      obtain ⟨a1, a2⟩ := leadsL_mem.1 ha
      obtain ⟨b1, b2⟩ := leadsL_mem.1 hb
      exact hab (lead_unique hp a1 b1 a2 b2 hx hy)
def sizesN (f : Nat → Nat) (N : Nat) : List Nat := (facesN f N N).map List.length
end
end Go.Proofs.YtfkegnhpihoncaaGreat
set_option linter.all false
namespace Go.Proofs.YtfkegnhpihoncaaGreat
set_option linter.unusedSimpArgs false
set_option linter.unusedVariables false
theorem period_min {N : Nat} {f : Nat → Nat} (h : PermN N f) {x : Nat} (hx : x < N) : ∃ p, 1 ≤ p ∧ p ≤ N ∧ it f p x = x ∧ ∀ i, 1 ≤ i → i < p → it f i x ≠ x := by
  obtain ⟨p, a, b, c, d, _⟩ := face_spec h hx
  exact ⟨p, a, b, c, d⟩
structure Eqv (N : Nat) (R : Nat → Nat → Prop) : Prop where
  refl : ∀ x, x < N → R x x
  symm : ∀ x y, x < N → y < N → R x y → R y x
  trans : ∀ x y z, x < N → y < N → z < N → R x y → R y z → R x z
open Classical in
noncomputable def ncls (N : Nat) (R : Nat → Nat → Prop) : Nat := ((List.range N).filter fun h => decide (∀ y, y < N → R h y → h ≤ y)).length
open Classical in
theorem ncls_congr {N : Nat} {R S : Nat → Nat → Prop} (h : ∀ x y, x < N → y < N → (R x y ↔ S x y)) : ncls N R = ncls N S := by
  unfold ncls
  congr 1
  refine List.filter_congr fun x hx => ?_
  have hx' := List.mem_range.1 hx
  rw [decide_eq_decide]
  exact ⟨fun H y hy hr => H y hy ((h x y hx' hy).2 hr), fun H y hy hr => H y hy ((h x y hx' hy).1 hr)⟩
theorem least_of {P : Nat → Prop} {x : Nat} (hx : P x) : ∃ m, m ≤ x ∧ P m ∧ ∀ y, P y → m ≤ y := by
  induction x using Nat.strongRecOn with
  | _ x ih =>
    by_cases h : ∃ y, y < x ∧ P y
    · obtain ⟨y, h1, h2⟩ := h
      obtain ⟨m, q1, q2, q3⟩ := ih y h1 h2
      exact ⟨m, by omega, q2, q3⟩
    · exact ⟨x, Nat.le_refl _, hx, fun y hy => Nat.le_of_not_lt fun hlt => h ⟨y, hlt, hy⟩⟩
theorem filter_minus {l : List Nat} {p q : Nat → Bool} {m : Nat} (hn : l.Nodup) (hm : m ∈ l) (hp : p m = true) (hq : ∀ x, x ∈ l → q x = (p x && decide (x ≠ m))) : (l.filter q).length + 1 = (l.filter p).length := by
  induction l with
  | nil => cases hm
  | cons a l ih =>
    obtain ⟨hna, hnl⟩ := List.nodup_cons.1 hn
    have hqa := hq a (by simp)
    by_cases e : a = m
    · subst e
      have e1 : q a = false := by rw [hqa]; simp
      have e2 : l.filter q = l.filter p := List.filter_congr fun x hx => by
        rw [hq x (by simp [hx])]
        have : x ≠ a := fun e => hna (e ▸ hx)
        simp [this]
      rw [List.filter_cons, List.filter_cons, e1, hp, if_neg (by simp), if_pos rfl, e2]
      simp
    · have hml : m ∈ l := by
        rcases List.mem_cons.1 hm with h | h
        · exact absurd h.symm e
        · exact h
      have := ih hnl hml fun x hx => hq x (by simp [hx])
      have e1 : q a = p a := by rw [hqa]; simp [e]
      rw [List.filter_cons, List.filter_cons, e1]
      cases p a <;> simp <;> omega
open Classical in
theorem ncls_join {N : Nat} {R S : Nat → Nat → Prop} (hR : Eqv N R) {a b : Nat} (ha : a < N) (hb : b < N) (hab : ¬ R a b)
    (hS : ∀ x y, x < N → y < N → (S x y ↔ R x y ∨ (R a x ∨ R b x) ∧ (R a y ∨ R b y))) : ncls N S + 1 = ncls N R := by
  obtain ⟨u, hu1, ⟨hu2, hu3⟩, hu4⟩ := least_of (P := fun y => y < N ∧ R a y) ⟨ha, hR.refl a ha⟩
  obtain ⟨v, hv1, ⟨hv2, hv3⟩, hv4⟩ := least_of (P := fun y => y < N ∧ R b y) ⟨hb, hR.refl b hb⟩
  have hne : u ≠ v := fun e => by
    subst e
    exact hab (hR.trans a u b ha hu2 hb hu3 (hR.symm b u hb hu2 hv3))
  have main : ∀ a b u v : Nat, a < N → b < N → ¬ R a b → u < N → R a u → (∀ y, y < N ∧ R a y → u ≤ y) → v < N → R b v → (∀ y, y < N ∧ R b y → v ≤ y) → u < v →
      (∀ x y, x < N → y < N → (S x y ↔ R x y ∨ (R a x ∨ R b x) ∧ (R a y ∨ R b y))) → ncls N S + 1 = ncls N R := by
    intro a b u v ha hb hab hu2 hu3 hu4 hv2 hv3 hv4 huv hS
    unfold ncls
    refine filter_minus (m := v) List.nodup_range (List.mem_range.2 hv2) ?_ fun x hx => ?_
    · exact decide_eq_true fun y hy hr => hv4 y ⟨hy, hR.trans b v y hb hv2 hy hv3 hr⟩
    · have hx' := List.mem_range.1 hx
      rw [Bool.eq_iff_iff, Bool.and_eq_true, decide_eq_true_eq, decide_eq_true_eq, decide_eq_true_eq]
      constructor
      · intro H
        refine ⟨fun y hy hr => H y hy ((hS x y hx' hy).2 (.inl hr)), fun e => ?_⟩
        subst e
        have := H u hu2 ((hS x u hx' hu2).2 (.inr ⟨.inr hv3, .inl hu3⟩))
        omega
      · rintro ⟨H, hxv⟩ y hy hs
        rcases (hS x y hx' hy).1 hs with h | ⟨h1, h2⟩
        · exact H y hy h
        · have hxu : x = u := by
            rcases h1 with h1 | h1
            · have p1 := hu4 x ⟨hx', h1⟩
              have p2 := H u hu2 (hR.trans x a u hx' ha hu2 (hR.symm a x ha hx' h1) hu3)
              omega
            · have p1 := hv4 x ⟨hx', h1⟩
              have p2 := H v hv2 (hR.trans x b v hx' hb hv2 (hR.symm b x hb hx' h1) hv3)
              omega
          rcases h2 with h2 | h2
          · have := hu4 y ⟨hy, h2⟩; omega
          · have := hv4 y ⟨hy, h2⟩; omega
  rcases Nat.lt_or_gt_of_ne hne with h | h
  · exact main a b u v ha hb hab hu2 hu3 hu4 hv2 hv3 hv4 h hS
  · refine main b a v u hb ha (fun h => hab (hR.symm b a hb ha h)) hv2 hv3 hv4 hu2 hu3 hu4 h fun x y hx hy => ?_
    rw [hS x y hx hy]
    rw [Or.comm (a := R a x), Or.comm (a := R a y)]
def cycR (f : Nat → Nat) (x y : Nat) : Prop := ∃ i, y = it f i x
theorem cyc_eqv {N : Nat} {f : Nat → Nat} (hp : PermN N f) : Eqv N (cycR f) := by
  refine ⟨fun x _ => ⟨0, rfl⟩, fun x y hx _ ⟨i, hi⟩ => ?_, fun x y z _ _ _ ⟨i, hi⟩ ⟨j, hj⟩ => ⟨j + i, by rw [it_add, ← hi, hj]⟩⟩
  obtain ⟨p, h1, h2, h3, h4⟩ := period_min hp hx
  refine ⟨p - i % p, ?_⟩
  rw [hi, it_mod h1 h3 i, ← it_add, show p - i % p + i % p = p by have := Nat.mod_lt i (show p > 0 by omega); omega, h3]
def swapF (f : Nat → Nat) (a b x : Nat) : Nat := if x = a then f b else if x = b then f a else f x
theorem swap_perm {N : Nat} {f : Nat → Nat} (hp : PermN N f) {a b : Nat} (ha : a < N) (hb : b < N) : PermN N (swapF f a b) := by
  have h1 := hp.lt a ha
  have h2 := hp.lt b hb
  refine ⟨fun x hx => ?_, fun x y hx hy e => ?_⟩
  · have := hp.lt x hx
    unfold swapF
    split
    · exact h2
    · split <;> assumption
  · have hi := fun u v => hp.inj u v
    by_cases hab : a = b
    · subst hab
      have q : ∀ z, swapF f a a z = f z := fun z => by
        unfold swapF; split
        · rename_i h; rw [h]
        · rfl
      rw [q, q] at e
      exact hi x y hx hy e
    · have qa : swapF f a b a = f b := by unfold swapF; rw [if_pos rfl]
      have qb : swapF f a b b = f a := by unfold swapF; rw [if_neg (fun e => hab e.symm), if_pos rfl]
      have qo : ∀ z, z ≠ a → z ≠ b → swapF f a b z = f z := fun z h1 h2 => by unfold swapF; rw [if_neg h1, if_neg h2]
      by_cases xa : x = a
      · subst xa
        rw [qa] at e
        by_cases ya : y = x
        · exact ya.symm
        · by_cases yb : y = b
          · subst yb; rw [qb] at e; exact (hi _ _ hb ha e).symm
          · rw [qo y ya yb] at e; exact absurd (hi _ _ hb hy e).symm yb
      · by_cases xb : x = b
        · subst xb
          rw [qb] at e
          by_cases ya : y = a
          · subst ya; rw [qa] at e; exact (hi _ _ ha hb e).symm
          · by_cases yb : y = x
            · exact yb.symm
            · rw [qo y ya yb] at e; exact absurd (hi _ _ ha hy e).symm ya
        · rw [qo x xa xb] at e
          by_cases ya : y = a
          · subst ya; rw [qa] at e; exact absurd (hi _ _ hx hb e) xb
          · by_cases yb : y = b
            · subst yb; rw [qb] at e; exact absurd (hi _ _ hx ha e) xa
            · rw [qo y ya yb] at e; exact hi _ _ hx hy e
theorem swap_reach {N : Nat} {f : Nat → Nat} (hp : PermN N f) {a b : Nat} (ha : a < N) (hb : b < N) (hab : ¬ cycR f b a) {y : Nat} (hy : cycR f b y) : cycR (swapF f a b) a y := by
  obtain ⟨q, h1, h2, h3, h4⟩ := period_min hp hb
  have key : ∀ i, 1 ≤ i → i ≤ q → it (swapF f a b) i a = it f i b := by
    intro i hi hq
    induction i with
    | zero => omega
    | succ i ih =>
      by_cases e : i = 0
      · subst e
        show swapF f a b a = f b
        unfold swapF; rw [if_pos rfl]
      · have := ih (by omega) (by omega)
        show swapF f a b (it (swapF f a b) i a) = f (it f i b)
        rw [this]
        unfold swapF
        rw [if_neg (fun e => hab ⟨i, e.symm⟩), if_neg (h4 i (by omega) (by omega))]
  obtain ⟨i, hi⟩ := hy
  rw [it_mod h1 h3 i] at hi
  by_cases e : i % q = 0
  · rw [e] at hi
    refine ⟨q, ?_⟩
    rw [key q h1 (Nat.le_refl _), h3, hi]; rfl
  · refine ⟨i % q, ?_⟩
    rw [key _ (by omega) (Nat.le_of_lt (Nat.mod_lt _ (by omega))), hi]
theorem swap_comm (f : Nat → Nat) (a b : Nat) : swapF f a b = swapF f b a := by
  funext x
  unfold swapF
  by_cases h1 : x = a
  · by_cases h2 : x = b
    · rw [if_pos h1, if_pos h2, ← h1, ← h2]
    · rw [if_pos h1, if_neg h2, if_pos h1]
  · by_cases h2 : x = b
    · rw [if_neg h1, if_pos h2, if_pos h2]
    · rw [if_neg h1, if_neg h2, if_neg h2, if_neg h1]
theorem swap_join {N : Nat} {f : Nat → Nat} (hp : PermN N f) {a b : Nat} (ha : a < N) (hb : b < N) (hab : ¬ cycR f a b) :
    ∀ x y, x < N → y < N → (cycR (swapF f a b) x y ↔ cycR f x y ∨ (cycR f a x ∨ cycR f b x) ∧ (cycR f a y ∨ cycR f b y)) := by
  have hE := cyc_eqv hp
  have hS := cyc_eqv (swap_perm hp ha hb)
  have hba : ¬ cycR f b a := fun h => hab (hE.symm _ _ hb ha h)
  have rb : ∀ y, cycR f b y → cycR (swapF f a b) a y := fun y hy => swap_reach hp ha hb hba hy
  have ra : ∀ y, cycR f a y → cycR (swapF f a b) b y := fun y hy => by rw [swap_comm]; exact swap_reach hp hb ha hab hy
  have hab' : cycR (swapF f a b) a b := rb b ⟨0, rfl⟩
  have hall : ∀ y, y < N → cycR f a y ∨ cycR f b y → cycR (swapF f a b) a y := fun y hy h => by
    rcases h with h | h
    · exact hS.trans a b y ha hb hy hab' (ra y h)
    · exact rb y h
  intro x y hx hy
  have hcl : ∀ u, u < N → (cycR f a u ∨ cycR f b u ↔ cycR f a (f u) ∨ cycR f b (f u)) := fun u hu => by
    have h1 : cycR f u (f u) := ⟨1, rfl⟩
    have hfu := hp.lt u hu
    have h2 := hE.symm _ _ hu hfu h1
    exact ⟨fun h => h.imp (fun h => hE.trans _ _ _ ha hu hfu h h1) (fun h => hE.trans _ _ _ hb hu hfu h h1), fun h => h.imp (fun h => hE.trans _ _ _ ha hfu hu h h2) (fun h => hE.trans _ _ _ hb hfu hu h h2)⟩
  constructor
  · rintro ⟨i, hi⟩
    have hlt : ∀ j, it (swapF f a b) j x < N := fun j => (swap_perm hp ha hb).it_lt hx j
    subst hi
    clear hy
    induction i with
    | zero => exact .inl ⟨0, rfl⟩
    | succ i ih =>
      show cycR f x (swapF f a b (it (swapF f a b) i x)) ∨ _ ∧ (cycR f a (swapF f a b (it (swapF f a b) i x)) ∨ cycR f b (swapF f a b (it (swapF f a b) i x)))
      have hl := hlt i
      generalize it (swapF f a b) i x = u at *
      have aa : cycR f a a := ⟨0, rfl⟩
      have bb : cycR f b b := ⟨0, rfl⟩
      have hux : u = a ∨ u = b → cycR f a x ∨ cycR f b x := fun h => by
        rcases ih with h1 | h1
        · rcases h with rfl | rfl
          · exact .inl (hE.symm _ _ hx hl h1)
          · exact .inr (hE.symm _ _ hx hl h1)
        · exact h1.1
      by_cases e1 : u = a
      · have : swapF f a b u = f b := by unfold swapF; rw [if_pos e1]
        rw [this]
        exact .inr ⟨hux (.inl e1), (hcl b hb).1 (.inr bb)⟩
      · by_cases e2 : u = b
        · have : swapF f a b u = f a := by unfold swapF; rw [if_neg e1, if_pos e2]
          rw [this]
          exact .inr ⟨hux (.inr e2), (hcl a ha).1 (.inl aa)⟩
        · have : swapF f a b u = f u := by unfold swapF; rw [if_neg e1, if_neg e2]
          rw [this]
          rcases ih with ⟨j, hj⟩ | ⟨h1, h2⟩
          · exact .inl ⟨j + 1, by rw [hj]; rfl⟩
          · exact .inr ⟨h1, (hcl u hl).1 h2⟩
  · rintro (h | ⟨h1, h2⟩)
    · by_cases hx2 : cycR f a x ∨ cycR f b x
      · have hy2 : cycR f a y ∨ cycR f b y := hx2.imp (fun q => hE.trans _ _ _ ha hx hy q h) (fun q => hE.trans _ _ _ hb hx hy q h)
        exact hS.trans x a y hx ha hy (hS.symm _ _ ha hx (hall x hx hx2)) (hall y hy hy2)
      · obtain ⟨i, rfl⟩ := h
        refine ⟨i, ?_⟩
        clear hy
        have key : ∀ j, it (swapF f a b) j x = it f j x := fun j => by
          induction j with
          | zero => rfl
          | succ j ih =>
            show swapF f a b (it (swapF f a b) j x) = f (it f j x)
            rw [ih]
            unfold swapF
            have hl := hp.it_lt hx j
            rw [if_neg (fun e => hx2 (.inl (hE.symm _ _ hx ha ⟨j, e.symm⟩))), if_neg (fun e => hx2 (.inr (hE.symm _ _ hx hb ⟨j, e.symm⟩)))]
        exact (key i).symm
    · exact hS.trans x a y hx ha hy (hS.symm _ _ ha hx (hall x hx h1)) (hall y hy h2)
theorem swap_swap (f : Nat → Nat) {a b : Nat} : swapF (swapF f a b) a b = f := by
  funext x
  unfold swapF
  by_cases h1 : x = a
  · subst h1
    by_cases h2 : b = x
    · subst h2; simp
    · simp [h2]
  · by_cases h2 : x = b
    · subst h2; simp [h1]
    · simp [h1, h2]
theorem swap_part {N : Nat} {f : Nat → Nat} (hp : PermN N f) {a b : Nat} (ha : a < N) (hb : b < N) (hne : a ≠ b) (hab : cycR f a b) : ¬ cycR (swapF f a b) a b := by
  obtain ⟨p, h1, h2, h3, h4⟩ := period_min hp ha
  obtain ⟨k, hk⟩ := hab
  rw [it_mod h1 h3 k] at hk
  have hkp := Nat.mod_lt k (show p > 0 by omega)
  generalize k % p = m at *
  have hm : m ≠ 0 := fun e => hne (by rw [hk, e]; rfl)
  have inj : ∀ i j, i < p → j < p → it f i a = it f j a → i = j := by
    have go : ∀ i j, i < j → j < p → it f i a ≠ it f j a := fun i j hij hj e => by
      have e2 : it f (p - j + i) a = a := by
        rw [it_add, e, ← it_add, show p - j + j = p by omega, h3]
      exact h4 (p - j + i) (by omega) (by omega) e2
    intro i j hi hj e
    rcases Nat.lt_trichotomy i j with h | h | h
    · exact absurd e (go i j h hj)
    · exact h
    · exact absurd e.symm (go j i h hi)
  have inv : ∀ i, ∃ j, m < j ∧ j ≤ p ∧ it (swapF f a b) i a = it f j a := by
    intro i
    induction i with
    | zero => exact ⟨p, hkp, Nat.le_refl _, h3.symm⟩
    | succ i ih =>
      obtain ⟨j, j1, j2, j3⟩ := ih
      show ∃ j, m < j ∧ j ≤ p ∧ swapF f a b (it (swapF f a b) i a) = it f j a
      rw [j3]
      by_cases e : j = p
      · subst e
        rw [h3]
        refine ⟨m + 1, by omega, by omega, ?_⟩
        unfold swapF; rw [if_pos rfl, hk]; rfl
      · refine ⟨j + 1, by omega, by omega, ?_⟩
        unfold swapF
        rw [if_neg (h4 j (by omega) (by omega)), if_neg]
        · rfl
        · intro h
          rw [hk] at h
          have := inj j m (by omega) (by omega) h
          omega
  rintro ⟨i, hi⟩
  obtain ⟨j, j1, j2, j3⟩ := inv i
  rw [j3] at hi
  by_cases e : j = p
  · subst e; rw [h3] at hi; exact hne hi.symm
  · rw [hk] at hi
    have := inj m j (by omega) (by omega) hi
    omega
theorem swap_count {N : Nat} {f : Nat → Nat} (hp : PermN N f) {a b : Nat} (ha : a < N) (hb : b < N) (hne : a ≠ b) :
    (cycR f a b ∧ ncls N (cycR (swapF f a b)) = ncls N (cycR f) + 1) ∨ (¬ cycR f a b ∧ ncls N (cycR (swapF f a b)) + 1 = ncls N (cycR f)) := by
  by_cases h : cycR f a b
  · refine .inl ⟨h, ?_⟩
    have h2 := swap_part hp ha hb hne h
    have := ncls_join (cyc_eqv (swap_perm hp ha hb)) ha hb h2 (swap_join (swap_perm hp ha hb) ha hb h2)
    rw [swap_swap] at this
    omega
  · exact .inr ⟨h, ncls_join (cyc_eqv hp) ha hb h (swap_join hp ha hb h)⟩
end Go.Proofs.YtfkegnhpihoncaaGreat
