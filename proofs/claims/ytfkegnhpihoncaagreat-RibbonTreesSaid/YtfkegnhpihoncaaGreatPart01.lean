/- A part of the proof. -/
import Derived.Test.YtfkegnhpihoncaaGreatLayerA
import Derived.Test.YtfkegnhpihoncaaGreatLayerC
import Derived.Test.YtfkegnhpihoncaaGreatProg
import Derived.KernelRfl
import Derived.Shelf.SlSortCmp.WholeK
import Derived.Shelf.SlSortCmp.Whole1
import Derived.Shelf.Sort.Plain
import Derived.Ground.SlsfProg
import Derived.Ground.NamesProg
set_option linter.all false
set_option maxHeartbeats 4000000
set_option maxRecDepth 100000
namespace Go.Proofs.YtfkegnhpihoncaaGreat
structure PermN (N : Nat) (f : Nat → Nat) : Prop where
 lt : ∀ x, x < N → f x < N
 inj : ∀ x y, x < N → y < N → f x = f y → x = y
def it (f : Nat → Nat) : Nat → Nat → Nat
 | 0, x => x
 | k + 1, x => f (it f k x)
theorem it_add (f : Nat → Nat) (a b x : Nat) : it f (a + b) x = it f a (it f b x) := by
 induction a with
 | zero => rw [Nat.zero_add]; rfl
 | succ a ih => rw [show a + 1 + b = (a + b) + 1 by omega]; simp only [it, ih]
section
variable {N : Nat} {f : Nat → Nat}
theorem PermN.it_lt (h : PermN N f) {x : Nat} (hx : x < N) (k : Nat) : it f k x < N := by
 induction k with
 | zero => exact hx
 | succ k ih => exact h.lt _ ih
theorem PermN.it_inj (h : PermN N f) {x y : Nat} (hx : x < N) (hy : y < N) (k : Nat) (e : it f k x = it f k y) : x = y := by
 induction k with
 | zero => exact e
 | succ k ih => exact ih (h.inj _ _ (h.it_lt hx k) (h.it_lt hy k) e)
theorem PermN.period (h : PermN N f) {x : Nat} (hx : x < N) : ∃ p, 1 ≤ p ∧ p ≤ N ∧ it f p x = x := by
 apply Classical.byContradiction
 intro hc
 have hne : ∀ i j : Nat, i < j → j ≤ N → it f i x ≠ it f j x := fun i j hij hj e => by
  refine hc ⟨j - i, by omega, by omega, ?_⟩
  have e2 : it f j x = it f i (it f (j - i) x) := by rw [← it_add]; congr 1; omega
  rw [e2] at e
  exact (h.it_inj hx (h.it_lt hx _) i e).symm
 have hnd : ((List.range (N + 1)).map fun k => it f k x).Nodup := by
  rw [List.Nodup, List.pairwise_map]
  exact List.pairwise_lt_range.imp_of_mem fun {a b} ha hb hab => hne a b hab (by have := List.mem_range.1 hb; omega)
 have hle := List.Nodup.length_le_of_subset hnd (l₂ := List.range N) (fun y hy => by
  obtain ⟨k, _, rfl⟩ := List.mem_map.1 hy
  exact List.mem_range.2 (h.it_lt hx k))
 simp at hle
 omega
def orbGo (f : Nat → Nat) (h : Nat) : Nat → Nat → List Nat
 | 0, _ => []
 | n + 1, x => if x = h then [] else x :: orbGo f h n (f x)
def faceF (f : Nat → Nat) (N h : Nat) : List Nat := h :: orbGo f h N (f h)
theorem orbGo_eq (f : Nat → Nat) (h : Nat) : ∀ (n k p : Nat), k ≤ p → p ≤ k + n → it f p h = h → (∀ i, k ≤ i → i < p → it f i h ≠ h) → orbGo f h n (it f k h) = (List.range (p - k)).map fun i => it f (k + i) h := by
 intro n
 induction n with
 | zero =>
  intro k p h1 h2 _ _
  rw [show p - k = 0 by omega]; rfl
 | succ n ih =>
  intro k p h1 h2 h3 h4
  by_cases e : k = p
  ·subst e
   rw [Nat.sub_self]
   simp only [orbGo, h3, if_true, List.range_zero, List.map_nil]
  ·have hk := h4 k (Nat.le_refl _) (by omega)
   simp only [orbGo, if_neg hk]
   have := ih (k + 1) p (by omega) (by omega) h3 fun i hi => h4 i (by omega)
   have e1 : f (it f k h) = it f (k + 1) h := rfl
   rw [e1, this, show p - k = (p - (k + 1)) + 1 by omega, List.range_succ_eq_map]
   simp only [List.map_cons, Nat.add_zero, List.map_map]
   congr 1
   refine List.map_congr_left fun i _ => ?_
   simp only [Function.comp]
   rw [show k + 1 + i = k + Nat.succ i by omega]
theorem least_period {f : Nat → Nat} {h : Nat} : ∀ p : Nat, 1 ≤ p → it f p h = h → ∃ q, 1 ≤ q ∧ q ≤ p ∧ it f q h = h ∧ ∀ i, 1 ≤ i → i < q → it f i h ≠ h := by
 intro p
 induction p using Nat.strongRecOn with
 | _ p ih =>
  intro h1 h2
  by_cases hx : ∃ i, 1 ≤ i ∧ i < p ∧ it f i h = h
  ·obtain ⟨i, h3, h4, h5⟩ := hx
   obtain ⟨q, q1, q2, q3⟩ := ih i h4 h3 h5
   exact ⟨q, q1, by omega, q3⟩
  ·exact ⟨p, h1, Nat.le_refl _, h2, fun i h3 h4 h5 => hx ⟨i, h3, h4, h5⟩⟩
theorem face_spec (hp : PermN N f) {h : Nat} (hh : h < N) : ∃ p, 1 ≤ p ∧ p ≤ N ∧ it f p h = h ∧ (∀ i, 1 ≤ i → i < p → it f i h ≠ h) ∧ faceF f N h = (List.range p).map fun i => it f i h := by
 obtain ⟨p0, h1, h2, h3⟩ := hp.period hh
 obtain ⟨p, q1, q2, q3, q4⟩ := least_period p0 h1 h3
 refine ⟨p, q1, by omega, q3, q4, ?_⟩
 have := orbGo_eq f h N 1 p q1 (by omega) q3 fun i hi => q4 i hi
 unfold faceF
 have e1 : f h = it f 1 h := rfl
 rw [e1, this]
 obtain ⟨m, rfl⟩ : ∃ m, p = m + 1 := ⟨p - 1, by omega⟩
 rw [Nat.add_sub_cancel, List.range_succ_eq_map]
 simp only [List.map_cons, List.map_map]
 congr 1
 refine List.map_congr_left fun i _ => ?_
 simp only [Function.comp]
 rw [show 1 + i = Nat.succ i by omega]
theorem it_mod {p h : Nat} (hp : 1 ≤ p) (e : it f p h = h) (i : Nat) : it f i h = it f (i % p) h := by
 have hm : ∀ k, it f (k * p) h = h := fun k => by
  induction k with
  | zero => rw [Nat.zero_mul]; rfl
  | succ k ih => rw [Nat.succ_mul, it_add, e, ih]
 have := Nat.div_add_mod i p
 calc it f i h = it f (i % p + (i / p) * p) h := by rw [Nat.mul_comm, Nat.add_comm, this]
  _ = it f (i % p) h := by rw [it_add, hm]
theorem face_mem (hp : PermN N f) {h : Nat} (hh : h < N) {y : Nat} : y ∈ faceF f N h ↔ ∃ i, y = it f i h := by
 obtain ⟨p, h1, h2, h3, h4, h5⟩ := face_spec hp hh
 rw [h5]
 constructor
 ·intro hy
  obtain ⟨i, _, rfl⟩ := List.mem_map.1 hy
  exact ⟨i, rfl⟩
 ·rintro ⟨i, rfl⟩
  rw [it_mod h1 h3 i]
  exact List.mem_map.2 ⟨i % p, List.mem_range.2 (Nat.mod_lt _ (by omega)), rfl⟩
theorem face_lt (hp : PermN N f) {h : Nat} (hh : h < N) {y : Nat} (hy : y ∈ faceF f N h) : y < N := by
 obtain ⟨i, rfl⟩ := (face_mem hp hh).1 hy
 exact hp.it_lt hh i
theorem face_self (f : Nat → Nat) (N h : Nat) : h ∈ faceF f N h := by simp [faceF]
theorem face_symm (hp : PermN N f) {h y : Nat} (hh : h < N) (hy : y ∈ faceF f N h) : h ∈ faceF f N y := by
 have hyl := face_lt hp hh hy
 obtain ⟨i, rfl⟩ := (face_mem hp hh).1 hy
 obtain ⟨p, h1, h2, h3, h4, h5⟩ := face_spec hp hh
 refine (face_mem hp hyl).2 ⟨p - i % p, ?_⟩
 rw [it_mod h1 h3 i, ← it_add, show p - i % p + i % p = p by have := Nat.mod_lt i (show p > 0 by omega); omega, h3]
theorem face_trans (hp : PermN N f) {h y z : Nat} (hh : h < N) (hy : y ∈ faceF f N h) (hz : z ∈ faceF f N y) : z ∈ faceF f N h := by
 have hyl := face_lt hp hh hy
 obtain ⟨i, rfl⟩ := (face_mem hp hh).1 hy
 obtain ⟨j, rfl⟩ := (face_mem hp hyl).1 hz
 exact (face_mem hp hh).2 ⟨j + i, by rw [it_add]⟩
theorem face_len (hp : PermN N f) {h : Nat} (hh : h < N) : (faceF f N h).length ≤ N := by
 obtain ⟨p, h1, h2, h3, h4, h5⟩ := face_spec hp hh
 rw [h5]; simpa using h2
theorem face_nodup (hp : PermN N f) {h : Nat} (hh : h < N) : (faceF f N h).Nodup := by
 obtain ⟨p, h1, h2, h3, h4, h5⟩ := face_spec hp hh
 rw [h5, List.Nodup, List.pairwise_map]
 refine List.pairwise_lt_range.imp_of_mem fun {a b} ha hb hab e => ?_
 have hb' := List.mem_range.1 hb
 have e2 : it f b h = it f a (it f (b - a) h) := by rw [← it_add]; congr 1; omega
 rw [e2] at e
 exact h4 (b - a) (by omega) (by omega) (hp.it_inj hh (hp.it_lt hh _) a e).symm
def leadB (f : Nat → Nat) (N h : Nat) : Bool := (faceF f N h).all fun y => decide (h ≤ y)
def leadsL (f : Nat → Nat) (N k : Nat) : List Nat := (List.range k).filter (leadB f N)
def facesN (f : Nat → Nat) (N k : Nat) : List (List Nat) := (leadsL f N k).map (faceF f N)
def ofN (f : Nat → Nat) (N k x : Nat) : Int :=
 match (facesN f N k).findIdx? (fun l => decide (x ∈ l)) with
 | some i => i
 | none => -1
theorem leadB_iff {h : Nat} : leadB f N h = true ↔ ∀ y, y ∈ faceF f N h → h ≤ y := by simp [leadB]
theorem leadsL_mem {k h : Nat} : h ∈ leadsL f N k ↔ h < k ∧ leadB f N h = true := by simp [leadsL]
theorem leadsL_succ (k : Nat) : leadsL f N (k + 1) = if leadB f N k = true then leadsL f N k ++ [k] else leadsL f N k := by
 unfold leadsL
 rw [List.range_succ, List.filter_append]
 cases h : leadB f N k <;> simp [h]
theorem facesN_succ (k : Nat) : facesN f N (k + 1) = if leadB f N k = true then facesN f N k ++ [faceF f N k] else facesN f N k := by
 unfold facesN
 rw [leadsL_succ]
 cases h : leadB f N k <;> simp
theorem least_mem {l : List Nat} (h : l ≠ []) : ∃ m, m ∈ l ∧ ∀ y, y ∈ l → m ≤ y := by
 induction l with
 | nil => exact absurd rfl h
 | cons x l ih =>
  by_cases e : l = []
  ·subst e; exact ⟨x, by simp, fun y hy => by simp at hy; omega⟩
  ·obtain ⟨m, h1, h2⟩ := ih e
   by_cases hx : x ≤ m
   ·exact ⟨x, by simp, fun y hy => by
     rcases List.mem_cons.1 hy with rfl | hy
     ·exact Nat.le_refl _
     ·exact Nat.le_trans hx (h2 y hy)⟩
   ·exact ⟨m, by simp [h1], fun y hy => by
     rcases List.mem_cons.1 hy with rfl | hy
     ·omega
     ·exact h2 y hy⟩
theorem lead_of (hp : PermN N f) {h : Nat} (hh : h < N) : ∃ m, m ≤ h ∧ leadB f N m = true ∧ h ∈ faceF f N m ∧ (leadB f N h = false → m < h) := by
 obtain ⟨m, h1, h2⟩ := least_mem (l := faceF f N h) (by simp [faceF])
 have hml := face_lt hp hh h1
 have hs := face_symm hp hh h1
 refine ⟨m, h2 h (face_self f N h), leadB_iff.2 fun y hy => h2 y (face_trans hp hh h1 hy), hs, fun hb => ?_⟩
 rcases Nat.lt_or_eq_of_le (h2 h (face_self f N h)) with h3 | h3
 ·exact h3
 ·subst h3
  rw [leadB_iff.2 h2] at hb; cases hb
theorem lead_unique (hp : PermN N f) {a b x : Nat} (ha : a < N) (hb : b < N) (la : leadB f N a = true) (lb : leadB f N b = true) (xa : x ∈ faceF f N a) (xb : x ∈ faceF f N b) : a = b := by
 have h1 : b ∈ faceF f N a := face_trans hp ha xa (face_symm hp hb xb)
 have h2 : a ∈ faceF f N b := face_symm hp ha h1
 have := leadB_iff.1 la b h1
 have := leadB_iff.1 lb a h2
 omega
theorem ofN_neg (hp : PermN N f) {k : Nat} (hk : k < N) : ofN f N k k < 0 ↔ leadB f N k = true := by
 unfold ofN
 constructor
 ·intro h
  cases hb : leadB f N k with
  | true => rfl
  | false =>
   obtain ⟨m, h1, h2, h3, h4⟩ := lead_of hp hk
   have hm := h4 hb
   cases hx : (facesN f N k).findIdx? (fun l => decide (k ∈ l)) with
   | some i => rw [hx] at h; simp only at h; omega
   | none =>
    exfalso
    rw [List.findIdx?_eq_none_iff] at hx
    have := hx (faceF f N m) (List.mem_map.2 ⟨m, leadsL_mem.2 ⟨hm, h2⟩, rfl⟩)
    simp [h3] at this
 ·intro hb
  cases hx : (facesN f N k).findIdx? (fun l => decide (k ∈ l)) with
  | none => simp
  | some i =>
   exfalso
   obtain ⟨hi, hd, _⟩ := List.findIdx?_eq_some_iff_getElem.1 hx
   have hmem : (facesN f N k)[i] ∈ facesN f N k := List.getElem_mem hi
   obtain ⟨a, ha, e⟩ := List.mem_map.1 hmem
   obtain ⟨h1, h2⟩ := leadsL_mem.1 ha
   have hka : k ∈ faceF f N a := by rw [e]; simpa using hd
   have := lead_unique hp (by omega) hk h2 hb hka (face_self f N k)
   omega
theorem ofN_succ (hp : PermN N f) {k : Nat} (hk : k < N) (hb : leadB f N k = true) {x : Nat} : ofN f N (k + 1) x = if x ∈ faceF f N k then ((facesN f N k).length : Int) else ofN f N k x := by
 unfold ofN
 rw [facesN_succ, if_pos hb, List.findIdx?_append]
 by_cases hx : x ∈ faceF f N k
 ·rw [if_pos hx]
  have hn : (facesN f N k).findIdx? (fun l => decide (x ∈ l)) = none := by
   rw [List.findIdx?_eq_none_iff]
   intro l hl
   obtain ⟨a, ha, rfl⟩ := List.mem_map.1 hl
   obtain ⟨h1, h2⟩ := leadsL_mem.1 ha
   rw [decide_eq_false_iff_not]
   intro hxa
   have := lead_unique hp (by omega) hk h2 hb hxa hx
   omega
  rw [hn]
  simp [List.findIdx?_cons, hx]
 ·rw [if_neg hx]
  cases hc : (facesN f N k).findIdx? (fun l => decide (x ∈ l)) with
  | some i => simp
  | none => simp [List.findIdx?_cons, hx]
theorem ofN_same {k : Nat} (hb : leadB f N k = false) {x : Nat} : ofN f N (k + 1) x = ofN f N k x := by
 unfold ofN; rw [facesN_succ, hb]; simp
end
end Go.Proofs.YtfkegnhpihoncaaGreat
namespace Go.Proofs.YtfkegnhpihoncaaGreat
open Go.Sp
theorem ty :
 ((tAgg Tryz.prog 2 = some false) ∧ (tSize Tryz.prog 2 = some 1) ∧ (tZero Tryz.prog 2 = some (.int .i64 0)) ∧ (tBytes Tryz.prog 2 = some 8) ∧ (Tryz.prog.underlying 2 = some (.int .i64)) ∧ (tAgg Tryz.prog 3 = some false) ∧ (tSize Tryz.prog 3 = some 1) ∧ (tZero Tryz.prog 3 = some (.int .i64 0)) ∧ (tBytes Tryz.prog 3 = some 8) ∧ (Tryz.prog.underlying 3 = some (.int .i64)) ∧ (tAgg Tryz.prog 4 = some false) ∧ (tSize Tryz.prog 4 = some 1) ∧ (tZero Tryz.prog 4 = some (.bool false)) ∧ (tBytes Tryz.prog 4 = some 1) ∧ (Tryz.prog.underlying 4 = some .bool) ∧ (tAgg Tryz.prog 5 = some false)) ∧
 ((tSize Tryz.prog 5 = some 1) ∧ (tZero Tryz.prog 5 = some (.int .u8 0)) ∧ (tBytes Tryz.prog 5 = some 1) ∧ (Tryz.prog.underlying 5 = some (.int .u8)) ∧ (tAgg Tryz.prog 9 = some false) ∧ (tSize Tryz.prog 9 = some 1) ∧ (tZero Tryz.prog 9 = some (.string ByteArray.empty)) ∧ (tBytes Tryz.prog 9 = some 16) ∧ (tAgg Tryz.prog 21 = some false) ∧ (tSize Tryz.prog 21 = some 1) ∧ (tZero Tryz.prog 21 = some (.int .i32 0)) ∧ (tBytes Tryz.prog 21 = some 4) ∧ (Tryz.prog.underlying 21 = some (.int .i32)) ∧ (tAgg Tryz.prog 22 = some false) ∧ (tSize Tryz.prog 22 = some 1) ∧ (tZero Tryz.prog 22 = some (.slice none 0 0))) ∧
 ((tBytes Tryz.prog 22 = some 24) ∧ (tElem Tryz.prog 22 = some (none, 76)) ∧ (tAgg Tryz.prog 24 = some true) ∧ (tSize Tryz.prog 24 = some 2) ∧ (tZero Tryz.prog 24 = some (.agg #[.int .i64 0, .slice none 0 0])) ∧ (tBytes Tryz.prog 24 = some 32) ∧ (tField Tryz.prog 24 0 = some (0, 3)) ∧ (tField Tryz.prog 24 1 = some (1, 22)) ∧ (tBuild Tryz.prog 24 = some (.agg #[.int .i64 0, .slice none 0 0], fun i => (#[(0, 1), (1, 1)] : Array (Nat × Nat))[i]?)) ∧ (tAgg Tryz.prog 25 = some false) ∧ (tSize Tryz.prog 25 = some 1) ∧ (tZero Tryz.prog 25 = some (.slice none 0 0)) ∧ (tBytes Tryz.prog 25 = some 24) ∧ (tElem Tryz.prog 25 = some (none, 40)) ∧ (tAgg Tryz.prog 27 = some true) ∧ (tSize Tryz.prog 27 = some 3)) ∧
 ((tZero Tryz.prog 27 = some (.agg #[.int .i64 0, .slice none 0 0, .slice none 0 0])) ∧ (tBytes Tryz.prog 27 = some 56) ∧ (tField Tryz.prog 27 0 = some (0, 24)) ∧ (tField Tryz.prog 27 1 = some (2, 25)) ∧ (tBuild Tryz.prog 27 = some (.agg #[.int .i64 0, .slice none 0 0, .slice none 0 0], fun i => (#[(0, 2), (2, 1)] : Array (Nat × Nat))[i]?)) ∧ (tAgg Tryz.prog 30 = some false) ∧ (tSize Tryz.prog 30 = some 1) ∧ (tZero Tryz.prog 30 = some (.int .i64 0)) ∧ (tBytes Tryz.prog 30 = some 8) ∧ (Tryz.prog.underlying 30 = some (.int .i64)) ∧ (tAgg Tryz.prog 39 = some false) ∧ (tSize Tryz.prog 39 = some 1) ∧ (tZero Tryz.prog 39 = some (.map none)) ∧ (tBytes Tryz.prog 39 = some 8) ∧ (tMap Tryz.prog 39 = some (3, 4)) ∧ (tAgg Tryz.prog 40 = some false)) ∧
 ((tSize Tryz.prog 40 = some 1) ∧ (tZero Tryz.prog 40 = some (.slice none 0 0)) ∧ (tBytes Tryz.prog 40 = some 24) ∧ (tElem Tryz.prog 40 = some (none, 3)) ∧ (tAgg Tryz.prog 44 = some false) ∧ (tSize Tryz.prog 44 = some 1) ∧ (tZero Tryz.prog 44 = some (.slice none 0 0)) ∧ (tBytes Tryz.prog 44 = some 24) ∧ (tElem Tryz.prog 44 = some (none, 4)) ∧ (tAgg Tryz.prog 59 = some true) ∧ (tSize Tryz.prog 59 = some 2) ∧ (tZero Tryz.prog 59 = some (.agg #[.slice none 0 0, .slice none 0 0])) ∧ (tBytes Tryz.prog 59 = some 48) ∧ (tElem Tryz.prog 59 = some (some 2, 40)) ∧ (tBuild Tryz.prog 59 = some (.agg #[.slice none 0 0, .slice none 0 0], fun i => some (i * 1, 1))) ∧ (tAgg Tryz.prog 60 = some false)) ∧
 ((tSize Tryz.prog 60 = some 1) ∧ (tZero Tryz.prog 60 = some (.slice none 0 0)) ∧ (tBytes Tryz.prog 60 = some 24) ∧ (tElem Tryz.prog 60 = some (none, 25)) ∧ (tAgg Tryz.prog 76 = some true) ∧ (tSize Tryz.prog 76 = some 3) ∧ (tZero Tryz.prog 76 = some (.agg #[.int .i64 0, .int .i64 0, .int .i64 0])) ∧ (tBytes Tryz.prog 76 = some 24) ∧ (tField Tryz.prog 76 0 = some (0, 3)) ∧ (tField Tryz.prog 76 1 = some (1, 3)) ∧ (tField Tryz.prog 76 2 = some (2, 3)) ∧ (tBuild Tryz.prog 76 = some (.agg #[.int .i64 0, .int .i64 0, .int .i64 0], fun i => (#[(0, 1), (1, 1), (2, 1)] : Array (Nat × Nat))[i]?)) ∧ (tAgg Tryz.prog 78 = some false) ∧ (tSize Tryz.prog 78 = some 1) ∧ (tZero Tryz.prog 78 = some (.slice none 0 0)) ∧ (tBytes Tryz.prog 78 = some 24)) ∧
 ((tElem Tryz.prog 78 = some (none, 86)) ∧ (tAgg Tryz.prog 86 = some true) ∧ (tSize Tryz.prog 86 = some 2) ∧ (tZero Tryz.prog 86 = some (.agg #[.int .i64 0, .int .i64 0])) ∧ (tBytes Tryz.prog 86 = some 16) ∧ (tElem Tryz.prog 86 = some (some 2, 3)) ∧ (tBuild Tryz.prog 86 = some (.agg #[.int .i64 0, .int .i64 0], fun i => some (i * 1, 1))) ∧ (tAgg Tryz.prog 105 = some false) ∧ (tSize Tryz.prog 105 = some 1) ∧ (tZero Tryz.prog 105 = some (.int .u64 0)) ∧ (tBytes Tryz.prog 105 = some 8) ∧ (Tryz.prog.underlying 105 = some (.int .u64)) ∧ (tAgg Tryz.prog 117 = some false) ∧ (tSize Tryz.prog 117 = some 1) ∧ (tZero Tryz.prog 117 = some (.map none)) ∧ (tBytes Tryz.prog 117 = some 8)) ∧
 ((tMap Tryz.prog 117 = some (121, 3)) ∧ (tAgg Tryz.prog 118 = some false) ∧ (tSize Tryz.prog 118 = some 1) ∧ (tZero Tryz.prog 118 = some (.map none)) ∧ (tBytes Tryz.prog 118 = some 8) ∧ (tMap Tryz.prog 118 = some (121, 3)) ∧ (tAgg Tryz.prog 121 = some true) ∧ (tSize Tryz.prog 121 = some 2) ∧ (tZero Tryz.prog 121 = some (.agg #[.int .i64 0, .int .i64 0])) ∧ (tBytes Tryz.prog 121 = some 16) ∧ (tField Tryz.prog 121 0 = some (0, 3)) ∧ (tField Tryz.prog 121 1 = some (1, 3)) ∧ (tBuild Tryz.prog 121 = some (.agg #[.int .i64 0, .int .i64 0], fun i => (#[(0, 1), (1, 1)] : Array (Nat × Nat))[i]?)) ∧ (tAgg Tryz.prog 135 = some false) ∧ (tSize Tryz.prog 135 = some 1) ∧ (tZero Tryz.prog 135 = some (.int .i64 0))) ∧
 ((tBytes Tryz.prog 135 = some 8) ∧ (Tryz.prog.underlying 135 = some (.int .i64)) ∧ (tAgg Tryz.prog 143 = some false) ∧ (tSize Tryz.prog 143 = some 1) ∧ (tZero Tryz.prog 143 = some (.int .u32 0)) ∧ (tBytes Tryz.prog 143 = some 4) ∧ (Tryz.prog.underlying 143 = some (.int .u32)) ∧ (tAgg Tryz.prog 145 = some false) ∧ (tSize Tryz.prog 145 = some 1) ∧ (tZero Tryz.prog 145 = some (.int .u64 0)) ∧ (tBytes Tryz.prog 145 = some 8) ∧ (Tryz.prog.underlying 145 = some (.int .u64)) ∧ (tAgg Tryz.prog 169 = some false) ∧ (tSize Tryz.prog 169 = some 1) ∧ (tZero Tryz.prog 169 = some (.int .u64 0)) ∧ (tBytes Tryz.prog 169 = some 8)) ∧
 ((Tryz.prog.underlying 169 = some (.int .u64)) ∧ (tAgg Tryz.prog 173 = some false) ∧ (tSize Tryz.prog 173 = some 1) ∧ (tZero Tryz.prog 173 = some (.pointer none)) ∧ (tBytes Tryz.prog 173 = some 8) ∧ (tAgg Tryz.prog 177 = some true) ∧ (tSize Tryz.prog 177 = some 12) ∧ (tZero Tryz.prog 177 = some (.agg #[.int .i64 0, .int .i64 0, .int .i64 0, .int .i64 0, .int .i64 0, .int .i64 0, .int .i64 0, .int .i64 0, .int .i64 0, .int .i64 0, .int .i64 0, .int .i64 0])) ∧ (tBytes Tryz.prog 177 = some 96) ∧ (tElem Tryz.prog 177 = some (some 12, 3)) ∧ (tBuild Tryz.prog 177 = some (.agg #[.int .i64 0, .int .i64 0, .int .i64 0, .int .i64 0, .int .i64 0, .int .i64 0, .int .i64 0, .int .i64 0, .int .i64 0, .int .i64 0, .int .i64 0, .int .i64 0], fun i => some (i * 1, 1))) ∧ (tAgg Tryz.prog 178 = some true) ∧ (tSize Tryz.prog 178 = some 12) ∧ (tZero Tryz.prog 178 = some (.agg #[.int .i64 0, .int .i64 0, .int .i64 0, .int .i64 0, .int .i64 0, .int .i64 0, .int .i64 0, .int .i64 0, .int .i64 0, .int .i64 0, .int .i64 0, .int .i64 0])) ∧ (tBytes Tryz.prog 178 = some 96) ∧ (tElem Tryz.prog 178 = some (some 12, 3))) ∧
 ((tBuild Tryz.prog 178 = some (.agg #[.int .i64 0, .int .i64 0, .int .i64 0, .int .i64 0, .int .i64 0, .int .i64 0, .int .i64 0, .int .i64 0, .int .i64 0, .int .i64 0, .int .i64 0, .int .i64 0], fun i => some (i * 1, 1))) ∧ (tAgg Tryz.prog 196 = some true) ∧ (tSize Tryz.prog 196 = some 12) ∧ (tZero Tryz.prog 196 = some (.agg #[.int .i64 0, .int .i64 0, .int .i64 0, .int .i64 0, .int .i64 0, .int .i64 0, .int .i64 0, .int .i64 0, .int .i64 0, .int .i64 0, .int .i64 0, .int .i64 0])) ∧ (tBytes Tryz.prog 196 = some 96) ∧ (tElem Tryz.prog 196 = some (some 12, 3)) ∧ (tBuild Tryz.prog 196 = some (.agg #[.int .i64 0, .int .i64 0, .int .i64 0, .int .i64 0, .int .i64 0, .int .i64 0, .int .i64 0, .int .i64 0, .int .i64 0, .int .i64 0, .int .i64 0, .int .i64 0], fun i => some (i * 1, 1))) ∧ (tAgg Tryz.prog 198 = some false) ∧ (tSize Tryz.prog 198 = some 1) ∧ (tZero Tryz.prog 198 = some (.pointer none)) ∧ (tBytes Tryz.prog 198 = some 8) ∧ (tAgg Tryz.prog 201 = some false) ∧ (tSize Tryz.prog 201 = some 1) ∧ (tZero Tryz.prog 201 = some (.pointer none)) ∧ (tBytes Tryz.prog 201 = some 8) ∧ (tAgg Tryz.prog 211 = some false)) ∧
 ((tSize Tryz.prog 211 = some 1) ∧ (tZero Tryz.prog 211 = some (.pointer none)) ∧ (tBytes Tryz.prog 211 = some 8) ∧ (tAgg Tryz.prog 212 = some false) ∧ (tSize Tryz.prog 212 = some 1) ∧ (tZero Tryz.prog 212 = some (.map none)) ∧ (tBytes Tryz.prog 212 = some 8) ∧ (tMap Tryz.prog 212 = some (3, 3)) ∧ (tAgg Tryz.prog 227 = some false) ∧ (tSize Tryz.prog 227 = some 1) ∧ (tZero Tryz.prog 227 = some (.pointer none)) ∧ (tBytes Tryz.prog 227 = some 8)) := by
 (repeat' refine And.intro ?_ ?_) <;> kernel_rfl
attribute [go_sem] ty
end Go.Proofs.YtfkegnhpihoncaaGreat
namespace Go.Proofs
open Go.Shelf
def YtfkegnhpihoncaaGreat.laySortE_ren : Go.Shelf.Ren := ⟨fun | 6 => 137 | 15 => 79 | 14 => 163 | 28 => 120 | 29 => 121 | 20 => 177 | 21 => 178 | 22 => 179 | 23 => 180 | 24 => 181 | 25 => 182 | 26 => 183 | 27 => 184 | 46 => 191 | 47 => 147 | 48 => 148 | 49 => 192 | 50 => 193 | 57 => 195 | n => n, fun | 22 => 22 | 24 => 76 | 25 => 163 | 3 => 3 | 39 => 105 | 0 => 0 | 53 => 143 | 55 => 145 | 4 => 4 | 46 => 136 | 45 => 135 | 50 => 140 | 5 => 5 | 9 => 9 | 66 => 169 | 70 => 173 | 76 => 198 | 77 => 199 | n => n, fun | n => n⟩
theorem YtfkegnhpihoncaaGreat.laySortE : Go.Proofs.SlLaysF0.n6 Tryz.prog YtfkegnhpihoncaaGreat.laySortE_ren := {
 mixed := by kernel_rfl
 f6 := ⟨Tryz.f137.name, by decide, Tryz.func137.trans (congrArg some (by kernel_rfl))⟩
 f14 := ⟨Tryz.f163.name, by decide, Tryz.func163.trans (congrArg some (by kernel_rfl))⟩
 f15 := Tryz.func79.trans (congrArg some (by kernel_rfl))
 f20 := ⟨Tryz.f177.name, by decide, Tryz.func177.trans (congrArg some (by kernel_rfl))⟩
 f21 := ⟨Tryz.f178.name, by decide, Tryz.func178.trans (congrArg some (by kernel_rfl))⟩
 f22 := ⟨Tryz.f179.name, by decide, Tryz.func179.trans (congrArg some (by kernel_rfl))⟩
 f23 := ⟨Tryz.f180.name, by decide, Tryz.func180.trans (congrArg some (by kernel_rfl))⟩
 f24 := ⟨Tryz.f181.name, by decide, Tryz.func181.trans (congrArg some (by kernel_rfl))⟩
 f25 := ⟨Tryz.f182.name, by decide, Tryz.func182.trans (congrArg some (by kernel_rfl))⟩
 f26 := ⟨Tryz.f183.name, by decide, Tryz.func183.trans (congrArg some (by kernel_rfl))⟩
 f27 := ⟨Tryz.f184.name, by decide, Tryz.func184.trans (congrArg some (by kernel_rfl))⟩
 f28 := Tryz.func120.trans (congrArg some (by kernel_rfl))
 f29 := Tryz.func121.trans (congrArg some (by kernel_rfl))
 f46 := ⟨Tryz.f191.name, by decide, Tryz.func191.trans (congrArg some (by kernel_rfl))⟩
 f47 := Tryz.func147.trans (congrArg some (by kernel_rfl))
 f48 := Tryz.func148.trans (congrArg some (by kernel_rfl))
 f49 := ⟨Tryz.f192.name, by decide, Tryz.func192.trans (congrArg some (by kernel_rfl))⟩
 f50 := ⟨Tryz.f193.name, by decide, Tryz.func193.trans (congrArg some (by kernel_rfl))⟩
 f57 := ⟨Tryz.f195.name, by decide, Tryz.func195.trans (congrArg some (by kernel_rfl))⟩
 t0 := Tryz.underlying0
 a0 := Tryz.isAgg0
 z0 := Tryz.sizeOf0
 v0 := Tryz.zeroValue0
 t3 := Tryz.underlying3
 a3 := Tryz.isAgg3
 z3 := Tryz.sizeOf3
 v3 := Tryz.zeroValue3
 t4 := Tryz.underlying4
 a4 := Tryz.isAgg4
 z4 := Tryz.sizeOf4
 v4 := Tryz.zeroValue4
 t5 := Tryz.underlying5
 a5 := Tryz.isAgg5
 z5 := Tryz.sizeOf5
 v5 := Tryz.zeroValue5
 t9 := Tryz.underlying9
 a9 := Tryz.isAgg9
 z9 := Tryz.sizeOf9
 v9 := Tryz.zeroValue9
 t22 := Tryz.underlying22
 a22 := Tryz.isAgg22
 z22 := Tryz.sizeOf22
 v22 := Tryz.zeroValue22
 t25 := Tryz.underlying163
 a25 := Tryz.isAgg163
 z25 := Tryz.sizeOf163
 v25 := Tryz.zeroValue163
 t39 := Tryz.underlying105
 a39 := Tryz.isAgg105
 z39 := Tryz.sizeOf105
 v39 := Tryz.zeroValue105
 t45 := Tryz.underlying135
 a45 := Tryz.isAgg135
 z45 := Tryz.sizeOf135
 v45 := Tryz.zeroValue135
 t46 := Tryz.underlying136
 a46 := Tryz.isAgg136
 z46 := Tryz.sizeOf136
 v46 := Tryz.zeroValue136
 t50 := Tryz.underlying140
 a50 := Tryz.isAgg140
 z50 := Tryz.sizeOf140
 v50 := Tryz.zeroValue140
 t53 := Tryz.underlying143
 a53 := Tryz.isAgg143
 z53 := Tryz.sizeOf143
 v53 := Tryz.zeroValue143
 t55 := Tryz.underlying145
 a55 := Tryz.isAgg145
 z55 := Tryz.sizeOf145
 v55 := Tryz.zeroValue145
 t66 := Tryz.underlying169
 a66 := Tryz.isAgg169
 z66 := Tryz.sizeOf169
 v66 := Tryz.zeroValue169
 t70 := Tryz.underlying173
 a70 := Tryz.isAgg173
 z70 := Tryz.sizeOf173
 v70 := Tryz.zeroValue173
 t76 := Tryz.underlying198
 a76 := Tryz.isAgg198
 z76 := Tryz.sizeOf198
 v76 := Tryz.zeroValue198
 t77 := Tryz.underlying199
 a77 := Tryz.isAgg199
 z77 := Tryz.sizeOf199
 v77 := Tryz.zeroValue199 }
def YtfkegnhpihoncaaGreat.laySortI_ren : Go.Shelf.Ren := ⟨fun | 189 => 37 | 125 => 79 | 257 => 78 | 128 => 120 | 129 => 121 | 294 => 111 | 295 => 112 | 296 => 113 | 297 => 114 | 298 => 115 | 299 => 116 | 216 => 117 | 300 => 118 | 301 => 119 | 328 => 146 | 329 => 147 | 330 => 148 | 331 => 149 | 332 => 150 | 215 => 141 | 343 => 175 | n => n, fun | 28 => 40 | 3 => 3 | 46 => 105 | 0 => 0 | 51 => 143 | 53 => 145 | 4 => 4 | 183 => 136 | 182 => 135 | 131 => 140 | 5 => 5 | 9 => 9 | 218 => 169 | 222 => 173 | 228 => 198 | 229 => 199 | n => n, fun | n => n⟩
theorem YtfkegnhpihoncaaGreat.laySortI : Go.Proofs.Lays.n189 Tryz.prog YtfkegnhpihoncaaGreat.laySortI_ren := {
 mixed := by kernel_rfl
 f125 := Tryz.func79.trans (congrArg some (by kernel_rfl))
 f128 := Tryz.func120.trans (congrArg some (by kernel_rfl))
 f129 := Tryz.func121.trans (congrArg some (by kernel_rfl))
 f189 := Tryz.func37.trans (congrArg some (by kernel_rfl))
 f215 := Tryz.func141.trans (congrArg some (by kernel_rfl))
 f216 := Tryz.func117.trans (congrArg some (by kernel_rfl))
 f257 := Tryz.func78.trans (congrArg some (by kernel_rfl))
 f294 := Tryz.func111.trans (congrArg some (by kernel_rfl))
 f295 := Tryz.func112.trans (congrArg some (by kernel_rfl))
 f296 := Tryz.func113.trans (congrArg some (by kernel_rfl))
 f297 := Tryz.func114.trans (congrArg some (by kernel_rfl))
 f298 := Tryz.func115.trans (congrArg some (by kernel_rfl))
 f299 := Tryz.func116.trans (congrArg some (by kernel_rfl))
 f300 := Tryz.func118.trans (congrArg some (by kernel_rfl))
 f301 := Tryz.func119.trans (congrArg some (by kernel_rfl))
 f328 := Tryz.func146.trans (congrArg some (by kernel_rfl))
 f329 := Tryz.func147.trans (congrArg some (by kernel_rfl))
 f330 := Tryz.func148.trans (congrArg some (by kernel_rfl))
 f331 := Tryz.func149.trans (congrArg some (by kernel_rfl))
 f332 := Tryz.func150.trans (congrArg some (by kernel_rfl))
 f343 := Tryz.func175.trans (congrArg some (by kernel_rfl))
 t0 := Tryz.underlying0
 a0 := Tryz.isAgg0
 z0 := Tryz.sizeOf0
 v0 := Tryz.zeroValue0
 t3 := Tryz.underlying3
 a3 := Tryz.isAgg3
 z3 := Tryz.sizeOf3
 v3 := Tryz.zeroValue3
 t4 := Tryz.underlying4
 a4 := Tryz.isAgg4
 z4 := Tryz.sizeOf4
 v4 := Tryz.zeroValue4
 t5 := Tryz.underlying5
 a5 := Tryz.isAgg5
 z5 := Tryz.sizeOf5
 v5 := Tryz.zeroValue5
 t9 := Tryz.underlying9
 a9 := Tryz.isAgg9
 z9 := Tryz.sizeOf9
 v9 := Tryz.zeroValue9
 t28 := Tryz.underlying40
 a28 := Tryz.isAgg40
 z28 := Tryz.sizeOf40
 v28 := Tryz.zeroValue40
 t46 := Tryz.underlying105
 a46 := Tryz.isAgg105
 z46 := Tryz.sizeOf105
 v46 := Tryz.zeroValue105
 t51 := Tryz.underlying143
 a51 := Tryz.isAgg143
 z51 := Tryz.sizeOf143
 v51 := Tryz.zeroValue143
 t53 := Tryz.underlying145
 a53 := Tryz.isAgg145
 z53 := Tryz.sizeOf145
 v53 := Tryz.zeroValue145
 t131 := Tryz.underlying140
 a131 := Tryz.isAgg140
 z131 := Tryz.sizeOf140
 v131 := Tryz.zeroValue140
 t182 := Tryz.underlying135
 a182 := Tryz.isAgg135
 z182 := Tryz.sizeOf135
 v182 := Tryz.zeroValue135
 t183 := Tryz.underlying136
 a183 := Tryz.isAgg136
 z183 := Tryz.sizeOf136
 v183 := Tryz.zeroValue136
 t218 := Tryz.underlying169
 a218 := Tryz.isAgg169
 z218 := Tryz.sizeOf169
 v218 := Tryz.zeroValue169
 t222 := Tryz.underlying173
 a222 := Tryz.isAgg173
 z222 := Tryz.sizeOf173
 v222 := Tryz.zeroValue173
 t228 := Tryz.underlying198
 a228 := Tryz.isAgg198
 z228 := Tryz.sizeOf198
 v228 := Tryz.zeroValue198
 t229 := Tryz.underlying199
 a229 := Tryz.isAgg199
 z229 := Tryz.sizeOf199
 v229 := Tryz.zeroValue199 }
def YtfkegnhpihoncaaGreat.laySortC_ren : Go.Shelf.Ren := ⟨fun | 6 => 100 | 15 => 79 | 14 => 140 | 28 => 120 | 29 => 121 | 20 => 164 | 21 => 165 | 22 => 166 | 23 => 167 | 24 => 168 | 25 => 169 | 26 => 170 | 27 => 171 | 46 => 185 | 47 => 147 | 48 => 148 | 49 => 186 | 50 => 187 | 57 => 194 | n => n, fun | 22 => 40 | 24 => 3 | 25 => 126 | 3 => 3 | 39 => 105 | 0 => 0 | 53 => 143 | 55 => 145 | 4 => 4 | 46 => 136 | 45 => 135 | 50 => 140 | 5 => 5 | 9 => 9 | 66 => 169 | 70 => 173 | 76 => 198 | 77 => 199 | n => n, fun | n => n⟩
theorem YtfkegnhpihoncaaGreat.laySortC : Go.Proofs.SlLaysF.n6 Tryz.prog YtfkegnhpihoncaaGreat.laySortC_ren := {
 mixed := by kernel_rfl
 f6 := ⟨Tryz.f100.name, by decide, Tryz.func100.trans (congrArg some (by kernel_rfl))⟩
 f14 := ⟨Tryz.f140.name, by decide, Tryz.func140.trans (congrArg some (by kernel_rfl))⟩
 f15 := Tryz.func79.trans (congrArg some (by kernel_rfl))
 f20 := ⟨Tryz.f164.name, by decide, Tryz.func164.trans (congrArg some (by kernel_rfl))⟩
 f21 := ⟨Tryz.f165.name, by decide, Tryz.func165.trans (congrArg some (by kernel_rfl))⟩
 f22 := ⟨Tryz.f166.name, by decide, Tryz.func166.trans (congrArg some (by kernel_rfl))⟩
 f23 := ⟨Tryz.f167.name, by decide, Tryz.func167.trans (congrArg some (by kernel_rfl))⟩
 f24 := ⟨Tryz.f168.name, by decide, Tryz.func168.trans (congrArg some (by kernel_rfl))⟩
 f25 := ⟨Tryz.f169.name, by decide, Tryz.func169.trans (congrArg some (by kernel_rfl))⟩
 f26 := ⟨Tryz.f170.name, by decide, Tryz.func170.trans (congrArg some (by kernel_rfl))⟩
 f27 := ⟨Tryz.f171.name, by decide, Tryz.func171.trans (congrArg some (by kernel_rfl))⟩
 f28 := Tryz.func120.trans (congrArg some (by kernel_rfl))
 f29 := Tryz.func121.trans (congrArg some (by kernel_rfl))
 f46 := ⟨Tryz.f185.name, by decide, Tryz.func185.trans (congrArg some (by kernel_rfl))⟩
 f47 := Tryz.func147.trans (congrArg some (by kernel_rfl))
 f48 := Tryz.func148.trans (congrArg some (by kernel_rfl))
 f49 := ⟨Tryz.f186.name, by decide, Tryz.func186.trans (congrArg some (by kernel_rfl))⟩
 f50 := ⟨Tryz.f187.name, by decide, Tryz.func187.trans (congrArg some (by kernel_rfl))⟩
 f57 := ⟨Tryz.f194.name, by decide, Tryz.func194.trans (congrArg some (by kernel_rfl))⟩
 t0 := Tryz.underlying0
 a0 := Tryz.isAgg0
 z0 := Tryz.sizeOf0
 v0 := Tryz.zeroValue0
 t3 := Tryz.underlying3
 a3 := Tryz.isAgg3
 z3 := Tryz.sizeOf3
 v3 := Tryz.zeroValue3
 t4 := Tryz.underlying4
 a4 := Tryz.isAgg4
 z4 := Tryz.sizeOf4
 v4 := Tryz.zeroValue4
 t5 := Tryz.underlying5
 a5 := Tryz.isAgg5
 z5 := Tryz.sizeOf5
 v5 := Tryz.zeroValue5
 t9 := Tryz.underlying9
 a9 := Tryz.isAgg9
 z9 := Tryz.sizeOf9
 v9 := Tryz.zeroValue9
 t22 := Tryz.underlying40
 a22 := Tryz.isAgg40
 z22 := Tryz.sizeOf40
 v22 := Tryz.zeroValue40
 a24 := Tryz.isAgg3
 z24 := Tryz.sizeOf3
 t25 := Tryz.underlying126
 a25 := Tryz.isAgg126
 z25 := Tryz.sizeOf126
 v25 := Tryz.zeroValue126
 t39 := Tryz.underlying105
 a39 := Tryz.isAgg105
 z39 := Tryz.sizeOf105
 v39 := Tryz.zeroValue105
 t45 := Tryz.underlying135
 a45 := Tryz.isAgg135
 z45 := Tryz.sizeOf135
 v45 := Tryz.zeroValue135
 t46 := Tryz.underlying136
 a46 := Tryz.isAgg136
 z46 := Tryz.sizeOf136
 v46 := Tryz.zeroValue136
 t50 := Tryz.underlying140
 a50 := Tryz.isAgg140
 z50 := Tryz.sizeOf140
 v50 := Tryz.zeroValue140
 t53 := Tryz.underlying143
 a53 := Tryz.isAgg143
 z53 := Tryz.sizeOf143
 v53 := Tryz.zeroValue143
 t55 := Tryz.underlying145
 a55 := Tryz.isAgg145
 z55 := Tryz.sizeOf145
 v55 := Tryz.zeroValue145
 t66 := Tryz.underlying169
 a66 := Tryz.isAgg169
 z66 := Tryz.sizeOf169
 v66 := Tryz.zeroValue169
 t70 := Tryz.underlying173
 a70 := Tryz.isAgg173
 z70 := Tryz.sizeOf173
 v70 := Tryz.zeroValue173
 t76 := Tryz.underlying198
 a76 := Tryz.isAgg198
 z76 := Tryz.sizeOf198
 v76 := Tryz.zeroValue198
 t77 := Tryz.underlying199
 a77 := Tryz.isAgg199
 z77 := Tryz.sizeOf199
 v77 := Tryz.zeroValue199 }
end Go.Proofs
