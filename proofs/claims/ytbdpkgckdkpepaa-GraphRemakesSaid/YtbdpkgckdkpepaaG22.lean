/- A part of the proof: contracts of functions of the program, or plain lemmas. -/
import Derived.Test.YtbdpkgckdkpepaaG21
import Derived.Test.YtbdpkgckdkpepaaG19
set_option linter.all false
namespace Go.Proofs.Ytbdpkgckdkpepaa
open Go.Sp
set_option linter.unusedSimpArgs false
set_option linter.unusedVariables false
def inL (p : Int → Bool) (n : Nat) : List Int := ((List.range n).map fun (i : Nat) => (i : Int)).filter p
def renE (F : Int → Int) (x : E) : E := ⟨F x.a, F x.b, x.m⟩
def bothE (F : Int → Int) (x : E) : Bool := decide (0 ≤ F x.a ∧ 0 ≤ F x.b)
def MonoF (F : Int → Int) : Prop := ∀ u v, 0 ≤ F u → 0 ≤ F v → u < v → F u < F v
def sepN (q : Int → Bool) : List (Int × Int) → Int
  | [] => 0
  | p :: l => (if q p.1 = q p.2 then 0 else 1) + sepN q l
def bothN (q : Int → Bool) : List (Int × Int) → Int
  | [] => 0
  | p :: l => (if q p.1 = true ∧ q p.2 = true then 1 else 0) + bothN q l
end Go.Proofs.Ytbdpkgckdkpepaa
