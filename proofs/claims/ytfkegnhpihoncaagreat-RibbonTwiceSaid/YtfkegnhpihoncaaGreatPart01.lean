/- A part of the proof: contracts of functions of the program, and plain lemmas. -/
import Derived.Test.YtfkegnhpihoncaaGreatLayerA
import Derived.Test.YtfkegnhpihoncaaGreatLayerC
set_option linter.all false
namespace Go.Proofs.YtfkegnhpihoncaaGreat
set_option linter.unusedSimpArgs false
set_option linter.unusedVariables false
structure PermN (N : Nat) (f : Nat → Nat) : Prop where
  lt : ∀ x, x < N → f x < N
  inj : ∀ x y, x < N → y < N → f x = f y → x = y
def it (f : Nat → Nat) : Nat → Nat → Nat
  | 0, x => x
  | k + 1, x => f (it f k x)
theorem it_add (f : Nat → Nat) (a b x : Nat) : it f (a + b) x = it f a (it f b x) := by
  induction a with
  | zero => rw [Nat.zero_add]; rfl
  | succ a ih => rw [show a + 1 + b = (a + b) + 1 by omega]; simp only [it, ih]
section
variable {N : Nat} {f : Nat → Nat}
theorem PermN.it_lt (h : PermN N f) {x : Nat} (hx : x < N) (k : Nat) : it f k x < N := by
  induction k with
  | zero => exact hx
  | succ k ih => exact h.lt _ ih
theorem PermN.it_inj (h : PermN N f) {x y : Nat} (hx : x < N) (hy : y < N) (k : Nat) (e : it f k x = it f k y) : x = y := by
  induction k with
  | zero => exact e
  | succ k ih => exact ih (h.inj _ _ (h.it_lt hx k) (h.it_lt hy k) e)
theorem PermN.period (h : PermN N f) {x : Nat} (hx : x < N) : ∃ p, 1 ≤ p ∧ p ≤ N ∧ it f p x = x := by
  apply Classical.byContradiction
  intro hc
  have hne : ∀ i j : Nat, i < j → j ≤ N → it f i x ≠ it f j x := fun i j hij hj e => by
    refine hc ⟨j - i, by omega, by omega, ?_⟩
    have e2 : it f j x = it f i (it f (j - i) x) := by rw [← it_add]; congr 1; omega
    rw [e2] at e
    exact (h.it_inj hx (h.it_lt hx _) i e).symm
  have hnd : ((List.range (N + 1)).map fun k => it f k x).Nodup := by
    rw [List.Nodup, List.pairwise_map]
    exact List.pairwise_lt_range.imp_of_mem fun {a b} ha hb hab => hne a b hab (by have := List.mem_range.1 hb; omega)
  have hle := List.Nodup.length_le_of_subset hnd (l₂ := List.range N) (fun y hy => by
    obtain ⟨k, _, rfl⟩ := List.mem_map.1 hy
    exact List.mem_range.2 (h.it_lt hx k))
  simp at hle
  omega
def orbGo (f : Nat → Nat) (h : Nat) : Nat → Nat → List Nat
  | 0, _ => []
  | n + 1, x => if x = h then [] else x :: orbGo f h n (f x)
def faceF (f : Nat → Nat) (N h : Nat) : List Nat := h :: orbGo f h N (f h)
theorem orbGo_eq (f : Nat → Nat) (h : Nat) : ∀ (n k p : Nat), k ≤ p → p ≤ k + n → it f p h = h → (∀ i, k ≤ i → i < p → it f i h ≠ h) → orbGo f h n (it f k h) = (List.range (p - k)).map fun i => it f (k + i) h := by
  intro n
  induction n with
  | zero =>
    intro k p h1 h2 _ _
    rw [show p - k = 0 by omega]; rfl
  | succ n ih =>
    intro k p h1 h2 h3 h4
    by_cases e : k = p
    · subst e
      rw [Nat.sub_self]
      simp only [orbGo, h3, if_true, List.range_zero, List.map_nil]
    · have hk := h4 k (Nat.le_refl _) (by omega)
      simp only [orbGo, if_neg hk]
      have := ih (k + 1) p (by omega) (by omega) h3 fun i hi => h4 i (by omega)
      have e1 : f (it f k h) = it f (k + 1) h := rfl
      rw [e1, this, show p - k = (p - (k + 1)) + 1 by omega, List.range_succ_eq_map]
      simp only [List.map_cons, Nat.add_zero, List.map_map]
      congr 1
      refine List.map_congr_left fun i _ => ?_
      simp only [Function.comp]
      rw [show k + 1 + i = k + Nat.succ i by omega]
theorem least_period {f : Nat → Nat} {h : Nat} : ∀ p : Nat, 1 ≤ p → it f p h = h → ∃ q, 1 ≤ q ∧ q ≤ p ∧ it f q h = h ∧ ∀ i, 1 ≤ i → i < q → it f i h ≠ h := by
  intro p
  induction p using Nat.strongRecOn with
  | _ p ih =>
    intro h1 h2
    by_cases hx : ∃ i, 1 ≤ i ∧ i < p ∧ it f i h = h
    · obtain ⟨i, h3, h4, h5⟩ := hx
      obtain ⟨q, q1, q2, q3⟩ := ih i h4 h3 h5
      exact ⟨q, q1, by omega, q3⟩
    · exact ⟨p, h1, Nat.le_refl _, h2, fun i h3 h4 h5 => hx ⟨i, h3, h4, h5⟩⟩
theorem face_spec (hp : PermN N f) {h : Nat} (hh : h < N) : ∃ p, 1 ≤ p ∧ p ≤ N ∧ it f p h = h ∧ (∀ i, 1 ≤ i → i < p → it f i h ≠ h) ∧ faceF f N h = (List.range p).map fun i => it f i h := by
  obtain ⟨p0, h1, h2, h3⟩ := hp.period hh
  obtain ⟨p, q1, q2, q3, q4⟩ := least_period p0 h1 h3
  refine ⟨p, q1, by omega, q3, q4, ?_⟩
  have := orbGo_eq f h N 1 p q1 (by omega) q3 fun i hi => q4 i hi
  unfold faceF
  have e1 : f h = it f 1 h := rfl
  rw [e1, this]
  obtain ⟨m, rfl⟩ : ∃ m, p = m + 1 := ⟨p - 1, by omega⟩
  rw [Nat.add_sub_cancel, List.range_succ_eq_map]
  simp only [List.map_cons, List.map_map]
  congr 1
  refine List.map_congr_left fun i _ => ?_
  simp only [Function.comp]
  rw [show 1 + i = Nat.succ i by omega]
theorem it_mod {p h : Nat} (hp : 1 ≤ p) (e : it f p h = h) (i : Nat) : it f i h = it f (i % p) h := by
  have hm : ∀ k, it f (k * p) h = h := fun k => by
    induction k with
    | zero => rw [Nat.zero_mul]; rfl
    | succ k ih => rw [Nat.succ_mul, it_add, e, ih]
  have := Nat.div_add_mod i p
  calc it f i h = it f (i % p + (i / p) * p) h := by rw [Nat.mul_comm, Nat.add_comm, this]
    _ = it f (i % p) h := by rw [it_add, hm]
theorem face_mem (hp : PermN N f) {h : Nat} (hh : h < N) {y : Nat} : y ∈ faceF f N h ↔ ∃ i, y = it f i h := by
  obtain ⟨p, h1, h2, h3, h4, h5⟩ := face_spec hp hh
  rw [h5]
  constructor
  · intro hy
    obtain ⟨i, _, rfl⟩ := List.mem_map.1 hy
    exact ⟨i, rfl⟩
  · rintro ⟨i, rfl⟩
    rw [it_mod h1 h3 i]
    exact List.mem_map.2 ⟨i % p, List.mem_range.2 (Nat.mod_lt _ (by omega)), rfl⟩
theorem face_lt (hp : PermN N f) {h : Nat} (hh : h < N) {y : Nat} (hy : y ∈ faceF f N h) : y < N := by
  obtain ⟨i, rfl⟩ := (face_mem hp hh).1 hy
  exact hp.it_lt hh i
theorem face_self (f : Nat → Nat) (N h : Nat) : h ∈ faceF f N h := by simp [faceF]
theorem face_symm (hp : PermN N f) {h y : Nat} (hh : h < N) (hy : y ∈ faceF f N h) : h ∈ faceF f N y := by
  have hyl := face_lt hp hh hy
  obtain ⟨i, rfl⟩ := (face_mem hp hh).1 hy
  obtain ⟨p, h1, h2, h3, h4, h5⟩ := face_spec hp hh
  refine (face_mem hp hyl).2 ⟨p - i % p, ?_⟩
  rw [it_mod h1 h3 i, ← it_add, show p - i % p + i % p = p by have := Nat.mod_lt i (show p > 0 by omega); omega, h3]
theorem face_trans (hp : PermN N f) {h y z : Nat} (hh : h < N) (hy : y ∈ faceF f N h) (hz : z ∈ faceF f N y) : z ∈ faceF f N h := by
  have hyl := face_lt hp hh hy
  obtain ⟨i, rfl⟩ := (face_mem hp hh).1 hy
  obtain ⟨j, rfl⟩ := (face_mem hp hyl).1 hz
  exact (face_mem hp hh).2 ⟨j + i, by rw [it_add]⟩
theorem face_len (hp : PermN N f) {h : Nat} (hh : h < N) : (faceF f N h).length ≤ N := by
  obtain ⟨p, h1, h2, h3, h4, h5⟩ := face_spec hp hh
  rw [h5]; simpa using h2
theorem face_nodup (hp : PermN N f) {h : Nat} (hh : h < N) : (faceF f N h).Nodup := by
  obtain ⟨p, h1, h2, h3, h4, h5⟩ := face_spec hp hh
  rw [h5, List.Nodup, List.pairwise_map]
  refine List.pairwise_lt_range.imp_of_mem fun {a b} ha hb hab e => ?_
  have hb' := List.mem_range.1 hb
  have e2 : it f b h = it f a (it f (b - a) h) := by rw [← it_add]; congr 1; omega
  rw [e2] at e
  exact h4 (b - a) (by omega) (by omega) (hp.it_inj hh (hp.it_lt hh _) a e).symm
def leadB (f : Nat → Nat) (N h : Nat) : Bool := (faceF f N h).all fun y => decide (h ≤ y)
def leadsL (f : Nat → Nat) (N k : Nat) : List Nat := (List.range k).filter (leadB f N)
def facesN (f : Nat → Nat) (N k : Nat) : List (List Nat) := (leadsL f N k).map (faceF f N)
def ofN (f : Nat → Nat) (N k x : Nat) : Int :=
  match (facesN f N k).findIdx? (fun l => decide (x ∈ l)) with
  | some i => i
  | none => -1
theorem leadB_iff {h : Nat} : leadB f N h = true ↔ ∀ y, y ∈ faceF f N h → h ≤ y := by simp [leadB]
theorem leadsL_mem {k h : Nat} : h ∈ leadsL f N k ↔ h < k ∧ leadB f N h = true := by simp [leadsL]
theorem leadsL_succ (k : Nat) : leadsL f N (k + 1) = if leadB f N k = true then leadsL f N k ++ [k] else leadsL f N k := by
  unfold leadsL
  rw [List.range_succ, List.filter_append]
  cases h : leadB f N k <;> simp [h]
theorem facesN_succ (k : Nat) : facesN f N (k + 1) = if leadB f N k = true then facesN f N k ++ [faceF f N k] else facesN f N k := by
  unfold facesN
  rw [leadsL_succ]
  cases h : leadB f N k <;> simp
theorem least_mem {l : List Nat} (h : l ≠ []) : ∃ m, m ∈ l ∧ ∀ y, y ∈ l → m ≤ y := by
  induction l with
  | nil => exact absurd rfl h
  | cons x l ih =>
    by_cases e : l = []
    · subst e; exact ⟨x, by simp, fun y hy => by simp at hy; omega⟩
    · obtain ⟨m, h1, h2⟩ := ih e
      by_cases hx : x ≤ m
      · exact ⟨x, by simp, fun y hy => by
          rcases List.mem_cons.1 hy with rfl | hy
          · exact Nat.le_refl _
          · exact Nat.le_trans hx (h2 y hy)⟩
      · exact ⟨m, by simp [h1], fun y hy => by
          rcases List.mem_cons.1 hy with rfl | hy
          · omega
          · exact h2 y hy⟩
theorem lead_of (hp : PermN N f) {h : Nat} (hh : h < N) : ∃ m, m ≤ h ∧ leadB f N m = true ∧ h ∈ faceF f N m ∧ (leadB f N h = false → m < h) := by
  obtain ⟨m, h1, h2⟩ := least_mem (l := faceF f N h) (by simp [faceF])
  have hml := face_lt hp hh h1
  have hs := face_symm hp hh h1
  refine ⟨m, h2 h (face_self f N h), leadB_iff.2 fun y hy => h2 y (face_trans hp hh h1 hy), hs, fun hb => ?_⟩
  rcases Nat.lt_or_eq_of_le (h2 h (face_self f N h)) with h3 | h3
  · exact h3
  · subst h3
    rw [leadB_iff.2 h2] at hb; cases hb
theorem lead_unique (hp : PermN N f) {a b x : Nat} (ha : a < N) (hb : b < N) (la : leadB f N a = true) (lb : leadB f N b = true) (xa : x ∈ faceF f N a) (xb : x ∈ faceF f N b) : a = b := by
  have h1 : b ∈ faceF f N a := face_trans hp ha xa (face_symm hp hb xb)
  have h2 : a ∈ faceF f N b := face_symm hp ha h1
  have := leadB_iff.1 la b h1
  have := leadB_iff.1 lb a h2
  omega
theorem ofN_neg (hp : PermN N f) {k : Nat} (hk : k < N) : ofN f N k k < 0 ↔ leadB f N k = true := by
  unfold ofN
  constructor
  · intro h
    cases hb : leadB f N k with
    | true => rfl
    | false =>
      obtain ⟨m, h1, h2, h3, h4⟩ := lead_of hp hk
      have hm := h4 hb
      cases hx : (facesN f N k).findIdx? (fun l => decide (k ∈ l)) with
      | some i => rw [hx] at h; simp only at h; omega
      | none =>
        exfalso
        rw [List.findIdx?_eq_none_iff] at hx
        have := hx (faceF f N m) (List.mem_map.2 ⟨m, leadsL_mem.2 ⟨hm, h2⟩, rfl⟩)
        simp [h3] at this
  · intro hb
    cases hx : (facesN f N k).findIdx? (fun l => decide (k ∈ l)) with
    | none => simp
    | some i =>
      exfalso
      obtain ⟨hi, hd, _⟩ := List.findIdx?_eq_some_iff_getElem.1 hx
      have hmem : (facesN f N k)[i] ∈ facesN f N k := List.getElem_mem hi
      obtain ⟨a, ha, e⟩ := List.mem_map.1 hmem
      obtain ⟨h1, h2⟩ := leadsL_mem.1 ha
      have hka : k ∈ faceF f N a := by rw [e]; simpa using hd
      have := lead_unique hp (by omega) hk h2 hb hka (face_self f N k)
      omega
theorem ofN_succ (hp : PermN N f) {k : Nat} (hk : k < N) (hb : leadB f N k = true) {x : Nat} : ofN f N (k + 1) x = if x ∈ faceF f N k then ((facesN f N k).length : Int) else ofN f N k x := by
  unfold ofN
  rw [facesN_succ, if_pos hb, List.findIdx?_append]
  by_cases hx : x ∈ faceF f N k
  · rw [if_pos hx]
    have hn : (facesN f N k).findIdx? (fun l => decide (x ∈ l)) = none := by
      rw [List.findIdx?_eq_none_iff]
      intro l hl
      obtain ⟨a, ha, rfl⟩ := List.mem_map.1 hl
      obtain ⟨h1, h2⟩ := leadsL_mem.1 ha
      rw [decide_eq_false_iff_not]
      intro hxa
      have := lead_unique hp (by omega) hk h2 hb hxa hx
      omega
    rw [hn]
    simp [List.findIdx?_cons, hx]
  · rw [if_neg hx]
    cases hc : (facesN f N k).findIdx? (fun l => decide (x ∈ l)) with
    | some i => simp
    | none => simp [List.findIdx?_cons, hx]
theorem ofN_same {k : Nat} (hb : leadB f N k = false) {x : Nat} : ofN f N (k + 1) x = ofN f N k x := by
  unfold ofN; rw [facesN_succ, hb]; simp
end
end Go.Proofs.YtfkegnhpihoncaaGreat
set_option linter.all false
namespace Go.Proofs.YtfkegnhpihoncaaGreat
open Go.Sp
set_option linter.unusedSimpArgs false
set_option linter.unusedVariables false
section
variable {N : Nat} {f : Nat → Nat}
def sizesN (f : Nat → Nat) (N : Nat) : List Nat := (facesN f N N).map List.length
theorem perm_range (hp : PermN N f) : ((List.range N).map f).Perm (List.range N) := by
  rw [List.perm_ext_iff_of_nodup ?_ List.nodup_range]
  · intro y
    rw [List.mem_range]
    constructor
    · intro h
      obtain ⟨x, hx, rfl⟩ := List.mem_map.1 h
      exact hp.lt _ (List.mem_range.1 hx)
    · intro hy
      obtain ⟨p, h1, _, h3⟩ := hp.period hy
      refine List.mem_map.2 ⟨it f (p - 1) y, List.mem_range.2 (hp.it_lt hy _), ?_⟩
      rw [← show it f (p - 1 + 1) y = f (it f (p - 1) y) from rfl, show p - 1 + 1 = p by omega, h3]
  · rw [List.Nodup, List.pairwise_map]
    exact List.pairwise_lt_range.imp_of_mem fun {a b} ha hb hab e => by
      have := hp.inj _ _ (List.mem_range.1 ha) (List.mem_range.1 hb) e
      omega
end
end Go.Proofs.YtfkegnhpihoncaaGreat
