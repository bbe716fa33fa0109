/- A part of the proof. -/
import Derived.Test.YtfkegnhpihoncaaGreatPart43
import Derived.Test.YtfkegnhpihoncaaGreatLayerC
import Derived.Test.YtfkegnhpihoncaaGreatLayerD
set_option linter.all false
set_option maxHeartbeats 4000000
set_option maxRecDepth 100000
namespace Go.Proofs.YtfkegnhpihoncaaGreat
open Go.Sp
def befL : List Int → List Int → Bool
 | [], [] => false
 | [], _ :: _ => true
 | _ :: _, [] => false
 | a :: us, b :: vs => if a = b then befL us vs else decide (a < b)
def sortLL (l : List (List Int)) : List (List Int) := l.mergeSort fun a b => !befL b a
def invS (nums : List Int) (fl : List Bool) (T : List Int) (e : Nat) : List Int :=
 (T.set (2 * (nums.getD e 0).toNat) (if fl.getD e false = true then 2 * (e : Int) + 1 else 2 * (e : Int))).set (2 * (nums.getD e 0).toNat + 1) (if fl.getD e false = true then 2 * (e : Int) else 2 * (e : Int) + 1)
def invK (nums : List Int) (fl : List Bool) (k : Nat) : List Int := (List.range k).foldl (invS nums fl) (List.replicate (2 * nums.length) 0)
def flB (m bits : Nat) : List Bool := (List.range m).map fun i => decide (bits / 2 ^ i % 2 = 1)
def behI (to back : List Int) (k : Nat) : List Int := (List.range back.length).map fun j => if j < k then to.getD (back.getD j 0).toNat 0 else back.getD j 0
def renL (to : List Int) (l : List Int) : List Int := turnL (l.map fun z => to.getD z.toNat 0)
section
variable {r : R}
end
end Go.Proofs.YtfkegnhpihoncaaGreat
