/- A part of the proof. -/
import Derived.Test.YtgklecfiflhjmaaPart07
import Derived.Test.YtgklecfiflhjmaaPart06
import Derived.Test.YtgklecfiflhjmaaLayerC
set_option linter.all false
set_option maxHeartbeats 4000000
set_option maxRecDepth 100000
namespace Go.Proofs.Ytgklecfiflhjmaa
open Go.Sp
def genStep (s : List Nat × Int) (p : Int × Int) : List Nat × Int :=
 let a := rootF s.1 12 p.1.toNat
 let b := rootF s.1 12 p.2.toNat
 (s.1.set (max a b) (min a b), if a = b then s.2 + 1 else s.2)
def genS (l : List (Int × Int)) : List Nat × Int := l.foldl genStep (List.range 12, 0)
theorem genS_snoc (l : List (Int × Int)) (p : Int × Int) : genS (l ++ [p]) = genStep (genS l) p := by simp [genS]
theorem genStep_ok {s : List Nat × Int} {p : Int × Int} (h : FOk s.1) (h1 : 0 ≤ p.1 ∧ p.1 < 12) (h2 : 0 ≤ p.2 ∧ p.2 < 12) : FOk (genStep s p).1 := by
 refine ⟨by simp [genStep, h.len], fun i hi => ?_⟩
 simp only [genStep] at hi ⊢
 rw [List.getElem_set]
 split
 ·omega
 ·exact h.le i (by simpa using hi)
theorem genS_ok {l : List (Int × Int)} (h : ∀ p, p ∈ l → (0 ≤ p.1 ∧ p.1 < 12) ∧ (0 ≤ p.2 ∧ p.2 < 12)) : FOk (genS l).1 ∧ 0 ≤ (genS l).2 ∧ (genS l).2 ≤ l.length := by
 have key : ∀ (l : List (Int × Int)) (s : List Nat × Int), FOk s.1 → (∀ p, p ∈ l → (0 ≤ p.1 ∧ p.1 < 12) ∧ (0 ≤ p.2 ∧ p.2 < 12)) → FOk (l.foldl genStep s).1 ∧ s.2 ≤ (l.foldl genStep s).2 ∧ (l.foldl genStep s).2 ≤ s.2 + l.length := by
  intro l
  induction l with
  | nil => intro s hs _; simp; exact hs
  | cons p l ih =>
   intro s hs hp
   have hp1 := hp p (by simp)
   obtain ⟨q1, q2, q3⟩ := ih (genStep s p) (genStep_ok hs hp1.1 hp1.2) fun q hq => hp q (by simp [hq])
   refine ⟨q1, ?_, ?_⟩
   ·refine Int.le_trans ?_ q2; simp only [genStep]; split <;> omega
   ·refine Int.le_trans q3 ?_; simp only [genStep, List.length_cons]; split <;> omega
 have := key l (List.range 12, 0) ⟨by simp, fun i hi => by simp⟩ h
 unfold genS
 simpa using this
theorem fC_set (F : List Nat) (i n : Nat) : setMany (fC F) i [.int .i64 (n : Int)] = fC (F.set i n) := by
 simp only [setMany, fC]
 rw [List.map_set]
theorem fC_set2 (F : List Nat) (i n : Nat) : (fC F).set i (.int .i64 (n : Int)) = fC (F.set i n) := by
 simp only [fC]
 rw [List.map_set]
theorem fC_len (F : List Nat) : (fC F).length = F.length := by simp [fC]
theorem endsL_mem {es : List E} {p : Int × Int} (h : p ∈ endsL es) : ∃ e, e ∈ es ∧ p = (e.a, e.b) := by
 unfold endsL at h
 obtain ⟨e, he, hp⟩ := List.mem_flatMap.1 h
 exact ⟨e, he, (List.mem_replicate.1 hp).2⟩
theorem ends_range {g : G} (hc : checkG g = 0) {p : Int × Int} (h : p ∈ endsL g.es) : (0 ≤ p.1 ∧ p.1 < g.n) ∧ (0 ≤ p.2 ∧ p.2 < g.n) := by
 obtain ⟨e, he, rfl⟩ := endsL_mem h
 have := (checkG_zero.1 hc).2.1 e he
 unfold okE at this
 simp only; omega
theorem mapM_fT (F : List Nat) : (fC F).mapM toTree0 = some (fT F) := by
 induction F with
 | nil => rfl
 | cons x xs ih =>
  simp only [fC, fT, List.map_cons, List.mapM_cons, toTree0] at ih ⊢
  rw [ih]; rfl
def initF (i : Nat) : List Nat := List.range i ++ List.replicate (12 - i) 0
theorem initF_set {i : Nat} (h : i < 12) : (initF i).set i i = initF (i + 1) := by
 unfold initF
 rw [show 12 - i = (12 - (i + 1)) + 1 by omega, List.replicate_succ, List.range_succ]
 rw [List.set_append_right _ _ (by simp)]
 simp
theorem initF_len {i : Nat} (h : i ≤ 12) : (initF i).length = 12 := by unfold initF; simp; omega
theorem initF_12 : initF 12 = List.range 12 := by unfold initF; simp
structure NOrd (L : List (Int × Int)) (zs : List Nat) : Prop where
 p : zs.Perm (List.range L.length)
 s : zs.Pairwise (ltN L)
def b2i (p : Prop) [Decidable p] : Int := if p then 1 else 0
def degL (v : Int) : List (Int × Int) → Int
 | [] => 0
 | p :: l => b2i (p.1 = v) + b2i (p.2 = v) + degL v l
theorem degL_append (v : Int) (a b : List (Int × Int)) : degL v (a ++ b) = degL v a + degL v b := by
 induction a with
 | nil => simp [degL]
 | cons x xs ih => simp only [List.cons_append, degL, ih]; omega
theorem degL_bound (v : Int) (l : List (Int × Int)) : 0 ≤ degL v l ∧ degL v l ≤ 2 * l.length := by
 induction l with
 | nil => simp [degL]
 | cons x xs ih => simp only [degL, List.length_cons, b2i]; split <;> split <;> omega
end Go.Proofs.Ytgklecfiflhjmaa
