/- A part of the proof: contracts of functions of the program, or plain lemmas. -/
import Derived.Test.YtbdpkgckdkpepaaG37
import Derived.Test.YtbdpkgckdkpepaaLayerC
set_option linter.all false
namespace Go.Proofs.Ytbdpkgckdkpepaa
open Go.Sp
set_option linter.unusedSimpArgs false
set_option linter.unusedVariables false
set_option maxHeartbeats 4000000
set_option maxRecDepth 100000



def iC (B : List Int) : List ACell := B.map fun x => ACell.int .i64 x
def refsT (base n i : Nat) : List (List ACap) := (List.range i).map fun j => [.ref (j + base) 1 0 n n]
def rowB (r : List Int) : Blk := .box (iC r)
end Go.Proofs.Ytbdpkgckdkpepaa
