/- A part of the proof. -/
import Derived.Test.YtgklecfiflhjmaaPart05
import Derived.Test.YtgklecfiflhjmaaPart06
import Derived.Test.YtgklecfiflhjmaaLayerC
set_option linter.all false
set_option maxHeartbeats 4000000
set_option maxRecDepth 100000
namespace Go.Proofs.Ytgklecfiflhjmaa
open Go.Sp
instance : DecidableEq E := fun x y => decidable_of_iff (x.a = y.a ∧ x.b = y.b ∧ x.m = y.m) (by cases x; cases y; simp)
def ltP (x : E) (a b : Int) : Prop := x.a < a ∨ (x.a = a ∧ x.b < b)
instance ltP.dec (x : E) (a b : Int) : Decidable (ltP x a b) := by unfold ltP; infer_instance
def fT (F : List Nat) : List Tree := F.map fun (n : Nat) => Tree.int .i64 (n : Int)
def fC (F : List Nat) : List ACell := F.map fun (n : Nat) => ACell.int .i64 (n : Int)
structure FOk (F : List Nat) : Prop where
 len : F.length = 12
 le : ∀ i (h : i < F.length), F[i] ≤ i
theorem fT_drop {F : List Nat} {i : Nat} (h : i < F.length) : (fT F).drop i = .int .i64 F[i] :: (fT F).drop (i + 1) := by
 have h' : i < (fT F).length := by simp [fT, h]
 rw [List.drop_eq_getElem_cons h']
 simp [fT]
def rootF (F : List Nat) : Nat → Nat → Nat
 | 0, v => v
 | n + 1, v => if F.getD v v = v then v else rootF F n (F.getD v v)
theorem rootF_fuel {F : List Nat} (h : FOk F) : ∀ {n m v : Nat}, v < 12 → v ≤ n → v ≤ m → rootF F n v = rootF F m v := by
 intro n
 induction n with
 | zero =>
  intro m v _ h1 h2
  have : v = 0 := by omega
  subst this
  cases m with
  | zero => rfl
  | succ m =>
   have h3 := h.le 0 (by rw [h.len]; omega)
   simp only [rootF]
   rw [List.getD_eq_getElem?_getD, List.getElem?_eq_getElem (by rw [h.len]; omega), Option.getD_some, if_pos (by omega)]
 | succ n ih =>
  intro m v hv h1 h2
  have hl : v < F.length := by rw [h.len]; exact hv
  have h3 := h.le v hl
  have e : F.getD v v = F[v] := by rw [List.getD_eq_getElem?_getD, List.getElem?_eq_getElem hl, Option.getD_some]
  cases m with
  | zero =>
   have : v = 0 := by omega
   subst this
   simp only [rootF, e]
   rw [if_pos (by omega)]
  | succ m =>
   simp only [rootF, e]
   by_cases hx : F[v] = v
   ·rw [if_pos hx, if_pos hx]
   ·rw [if_neg hx, if_neg hx]
    exact ih (by omega) (by omega) (by omega)
theorem rootF_step {F : List Nat} (h : FOk F) {v : Nat} (hv : v < F.length) : rootF F 12 v = if F[v] = v then v else rootF F 12 F[v] := by
 have hv' : v < 12 := by rw [← h.len]; exact hv
 have e : F.getD v v = F[v] := by rw [List.getD_eq_getElem?_getD, List.getElem?_eq_getElem hv, Option.getD_some]
 have h3 := h.le v hv
 have : rootF F 12 v = if F[v] = v then v else rootF F 11 F[v] := by
  show (if F.getD v v = v then v else rootF F 11 (F.getD v v)) = _
  rw [e]
 rw [this]
 by_cases hx : F[v] = v
 ·rw [if_pos hx, if_pos hx]
 ·rw [if_neg hx, if_neg hx]; exact rootF_fuel h (by omega) (by omega) (by omega)
theorem rootF_le {F : List Nat} (h : FOk F) : ∀ {n v : Nat}, v < 12 → rootF F n v ≤ v := by
 intro n
 induction n with
 | zero => intro v _; exact Nat.le_refl _
 | succ n ih =>
  intro v hv
  have hl : v < F.length := by rw [h.len]; exact hv
  have h3 := h.le v hl
  have e : F.getD v v = F[v] := by rw [List.getD_eq_getElem?_getD, List.getElem?_eq_getElem hl, Option.getD_some]
  simp only [rootF, e]
  split
  ·exact Nat.le_refl _
  ·exact Nat.le_trans (ih (by omega)) h3
end Go.Proofs.Ytgklecfiflhjmaa
