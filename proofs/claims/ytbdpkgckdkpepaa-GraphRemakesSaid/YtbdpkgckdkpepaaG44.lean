/- A part of the proof: contracts of functions of the program, or plain lemmas. -/
import Derived.Test.YtbdpkgckdkpepaaG43
set_option linter.all false
namespace Go.Proofs.Ytbdpkgckdkpepaa
open Go.Sp
set_option linter.unusedSimpArgs false
set_option linter.unusedVariables false
set_option maxHeartbeats 4000000
set_option maxRecDepth 100000



def treesI (r : List Int) : List Tree := r.map fun x => Tree.int .i64 x
def roB (r : List Int) : Blk := .ro (treesI r)
section
variable {P : Program} {rd : Option Nat} {h : Nat} {Q : Exit → St → Prop} {c : Code} {tm : List AVal}
end
def tabF (n : Nat) (g : Nat → Nat → Int) : List (List Int) := (List.range n).map fun a => (List.range n).map fun b => g a b
theorem tabF_sq (n : Nat) (g : Nat → Nat → Int) : Sq n (tabF n g) := ⟨by simp [tabF], fun r hr => by obtain ⟨a, _, rfl⟩ := List.mem_map.1 hr; simp⟩
@[simp] theorem tabF_take (n : Nat) (g : Nat → Nat → Int) : (tabF n g).take n = tabF n g := List.take_of_length_le (by rw [(tabF_sq n g).len]; exact Nat.le_refl _)
@[simp] theorem tab_take (n : Nat) (g : Nat → Nat → Int) : ((tabF n g).map rowB).take n = (tabF n g).map rowB := List.take_of_length_le (by rw [List.length_map, (tabF_sq n g).len]; exact Nat.le_refl _)
def gI (f : Nat → Nat → Int) (i k a b : Nat) : Int := if a ≤ b ∧ (a < i ∨ (a = i ∧ b < k)) then f a b else 0
def pairF (es : List E) (l : List Int) (a b : Nat) : Int := cntL es (min (l.getD a 0) (l.getD b 0)) (max (l.getD a 0) (l.getD b 0))
end Go.Proofs.Ytbdpkgckdkpepaa
