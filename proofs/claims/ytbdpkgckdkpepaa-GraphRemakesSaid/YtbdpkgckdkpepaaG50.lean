/- A part of the proof: contracts of functions of the program, or plain lemmas. -/
import Derived.Test.YtbdpkgckdkpepaaG44
import Derived.Test.YtbdpkgckdkpepaaG46
set_option linter.all false
namespace Go.Proofs.Ytbdpkgckdkpepaa
open Go.Sp
set_option linter.unusedSimpArgs false
set_option linter.unusedVariables false
set_option maxHeartbeats 4000000
set_option maxRecDepth 100000



theorem cntL_put (es : List E) (a b m i j : Int) : cntL (bagPut es a b m) i j = if i = a ∧ j = b then m else cntL es i j := by
  induction es with
  | nil =>
    simp only [bagPut, cntL]
    by_cases h : i = a ∧ j = b
    · rw [if_pos h, if_pos ⟨h.1.symm, h.2.symm⟩]
    · rw [if_neg h, if_neg fun x => h ⟨x.1.symm, x.2.symm⟩]
  | cons x xs ih =>
    simp only [bagPut]
    by_cases hx : x.a = a ∧ x.b = b
    · rw [if_pos hx]
      simp only [cntL]
      by_cases h : i = a ∧ j = b
      · rw [if_pos h, if_pos ⟨h.1.symm, h.2.symm⟩]
      · rw [if_neg h, if_neg fun x => h ⟨x.1.symm, x.2.symm⟩, if_neg fun y => h ⟨by omega, by omega⟩]
    · rw [if_neg hx]
      simp only [cntL, ih]
      by_cases hy : x.a = i ∧ x.b = j
      · rw [if_pos hy, if_pos hy, if_neg fun h => hx ⟨by omega, by omega⟩]
      · rw [if_neg hy, if_neg hy]
def cG (l : List (Int × Int)) (k a b : Nat) : Int := cntL (bagL (l.take k)) a b
def okP (n : Int) (p : Int × Int) : Prop := (0 ≤ p.1 ∧ p.1 < n) ∧ (0 ≤ p.2 ∧ p.2 < n)
end Go.Proofs.Ytbdpkgckdkpepaa
