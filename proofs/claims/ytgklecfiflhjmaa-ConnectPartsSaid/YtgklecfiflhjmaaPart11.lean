/- A part of the proof. -/
import Derived.Test.YtgklecfiflhjmaaPart10
import Derived.Test.YtgklecfiflhjmaaLayerB
import Derived.Test.YtgklecfiflhjmaaLayerC
set_option linter.all false
set_option maxHeartbeats 4000000
set_option maxRecDepth 100000
namespace Go.Proofs.Ytgklecfiflhjmaa
open Go.Sp
def cntL : List E → Int → Int → Int
 | [], _, _ => 0
 | x :: xs, a, b => if x.a = a ∧ x.b = b then x.m else cntL xs a b
def bagPut : List E → Int → Int → Int → List E
 | [], a, b, m => [⟨a, b, m⟩]
 | x :: xs, a, b, m => if x.a = a ∧ x.b = b then ⟨a, b, m⟩ :: xs else x :: bagPut xs a b m
def bagStep (es : List E) (p : Int × Int) : List E := bagPut es (min p.1 p.2) (max p.1 p.2) (cntL es (min p.1 p.2) (max p.1 p.2) + 1)
def bagL (l : List (Int × Int)) : List E := l.foldl bagStep []
theorem mStamp_lt (es : List (MKey × MV)) (k : MKey) (z : MV) : mStamp es k < (mAdd es k z).length := by
 unfold mStamp mAdd mHas
 cases h : mIdx es k with
 | none => simp
 | some i =>
  obtain ⟨v, hv⟩ := mIdx_some h
  have := (List.getElem?_eq_some_iff.1 hv).1
  simpa using this
theorem bagL_snoc (l : List (Int × Int)) (p : Int × Int) : bagL (l ++ [p]) = bagStep (bagL l) p := by simp [bagL]
theorem bagPut_mem {es : List E} {a b m : Int} {e : E} (h : e ∈ bagPut es a b m) : e ∈ es ∨ e = ⟨a, b, m⟩ := by
 induction es with
 | nil => simp [bagPut] at h; exact .inr h
 | cons x xs ih =>
  simp only [bagPut] at h
  split at h
  ·rcases List.mem_cons.1 h with h | h
   ·exact .inr h
   ·exact .inl (by simp [h])
  ·rcases List.mem_cons.1 h with h | h
   ·exact .inl (by simp [h])
   ·rcases ih h with h | h
    ·exact .inl (by simp [h])
    ·exact .inr h
theorem bagPut_distinct {es : List E} {a b m : Int} (h : distinctE es) : distinctE (bagPut es a b m) := by
 induction es with
 | nil => simp [bagPut, distinctE]
 | cons x xs ih =>
  unfold distinctE at *
  rw [List.pairwise_cons] at h
  simp only [bagPut]
  split
  ·rename_i hx
   refine List.pairwise_cons.2 ⟨fun y hy => ?_, h.2⟩
   have := h.1 y hy
   unfold neE at *; simp only; omega
  ·rename_i hx
   refine List.pairwise_cons.2 ⟨fun y hy => ?_, ih h.2⟩
   rcases bagPut_mem hy with hy | hy
   ·exact h.1 y hy
   ·subst hy; unfold neE; simp only; omega
theorem bagPut_len (es : List E) (a b m : Int) : (bagPut es a b m).length ≤ es.length + 1 := by
 induction es with
 | nil => simp [bagPut]
 | cons x xs ih => simp only [bagPut]; split <;> simp <;> omega
theorem cntL_le {es : List E} {a b k : Int} (h : ∀ e, e ∈ es → e.m ≤ k) (hk : 0 ≤ k) : cntL es a b ≤ k := by
 induction es with
 | nil => simpa [cntL] using hk
 | cons x xs ih => simp only [cntL]; split; exact h x (by simp); exact ih fun e he => h e (by simp [he])
theorem cntL_ge {es : List E} {a b : Int} (h : ∀ e, e ∈ es → 1 ≤ e.m) : 0 ≤ cntL es a b := by
 induction es with
 | nil => simp [cntL]
 | cons x xs ih => simp only [cntL]; split; have := h x (by simp); omega; exact ih fun e he => h e (by simp [he])
structure BagOk (n : Int) (k : Nat) (es : List E) : Prop where
 d : distinctE es
 len : es.length ≤ k
 m : ∀ e, e ∈ es → 1 ≤ e.m ∧ e.m ≤ k
 r : ∀ e, e ∈ es → 0 ≤ e.a ∧ e.a ≤ e.b ∧ e.b < n
theorem bag_step {n : Int} {k : Nat} {es : List E} (h : BagOk n k es) {p : Int × Int} (h1 : 0 ≤ p.1 ∧ p.1 < n) (h2 : 0 ≤ p.2 ∧ p.2 < n) : BagOk n (k + 1) (bagStep es p) := by
 have c1 := cntL_le (a := min p.1 p.2) (b := max p.1 p.2) (k := k) (fun e he => (h.m e he).2) (by omega)
 have c2 := cntL_ge (a := min p.1 p.2) (b := max p.1 p.2) (fun e he => (h.m e he).1)
 refine ⟨bagPut_distinct h.d, Nat.le_trans (bagPut_len ..) (by have := h.len; omega), fun e he => ?_, fun e he => ?_⟩
 ·rcases bagPut_mem he with he | rfl
  ·have := h.m e he; omega
  ·simp only; omega
 ·rcases bagPut_mem he with he | rfl
  ·exact h.r e he
  ·simp only; omega
open Classical in
noncomputable def makeE (n : Int) (l : List (Int × Int)) : G × Int :=
 if n < 1 ∨ 12 < n then (⟨0, []⟩, 2) else if 4096 < l.length then (⟨0, []⟩, 5)
 else if ∃ p, p ∈ l ∧ ¬ ((0 ≤ p.1 ∧ p.1 < n) ∧ (0 ≤ p.2 ∧ p.2 < n)) then (⟨0, []⟩, 2)
 else if ∃ e, e ∈ bagL l ∧ 50 < e.m then (⟨0, []⟩, 5) else (⟨n, sortE (bagL l)⟩, 0)
end Go.Proofs.Ytgklecfiflhjmaa
namespace Go.Proofs.Ytgklecfiflhjmaa
open Go.Sp
@[simp] theorem chJ_halves (L : List (Int × Int)) (n k : Nat) : (chJ (halvesL L n k)).take n = chJ (halvesL L n k) := chJ_take (by rw [halvesL_len]; exact Nat.le_refl _)
end Go.Proofs.Ytgklecfiflhjmaa
