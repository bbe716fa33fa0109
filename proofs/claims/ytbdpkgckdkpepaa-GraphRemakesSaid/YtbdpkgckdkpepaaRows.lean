/-
  No cell of these rows narrows 'for every input' (looked for: loops, veiled, ifaces, maps, wideKeys, modest, calm, conditions, laid).
  DERIVED. THE GIVEN ROWS OF THIS SEAT. 9 by the template 'for every input the law returns true; each argument reads behind the call as it read before'; 0 by the template 'total and deterministic' (their statements: YtbdpkgckdkpepaaTotals.lean).
  GIVEN WITH THE SEED: the statements are not yours to turn. If you find one false, say at which input.
  Laid BY PROGRAM, IN A SANDBOX (cutbox-rows.mjs): the forced cells as the released guide's own fill.sh prints them over the translation e505fdfb4eed7948… (all of the seat's roots in one cut). By AI agents, Wed Nov 11 2026. No macro, syntax, notation, axiom, sorry.
-/
import Derived.Test.YtbdpkgckdkpepaaChecked
import GoSem.Claim
import GoSem.ClaimJoined
import GoSem.ClaimMapViews
import Derived.JoinedTies
import Derived.KernelRfl
namespace Go.Proofs.Ytbdpkgckdkpepaa
/- THE CELL 'sum', in the pinned program and in every row, IS THE sha256 OF THE DUMP (.gsa) THAT YtbdpkgckdkpepaaProg.lean LOADS. Nothing in Lean hashes anything: it is a label: what it is worth is what the hold of that sum in a sandbox is worth. -/
noncomputable def Try.pinned : Pinned := { name := "ytbdpkgckdkpepaa", sum := "e505fdfb4eed79485f2bf97394a80fafd808e429cdd0d5b39dabab997e12325e", checked := Try.checked }
namespace Rows
def none {H : Type} : Left H := { results := [], args := [] }

/-- 'sandpilelaw08.GraphChecks': WHATEVER THE INPUT: true; the input reads as it did. -/
def graphChecksSpec : ChangeSpec := { name := "graphChecks", fn := fun _ => fun
  | [d] => { results := [.lit (.bool true)], args := [d] }
  | _ => none }
def graphChecksRow : OpenClaim := { program := "ytbdpkgckdkpepaa", sum := "e505fdfb4eed79485f2bf97394a80fafd808e429cdd0d5b39dabab997e12325e", func := "sandpile/sandpilelaw08.GraphChecks", spec := "graphChecks", unfollowed := true, recurses := true, plainKeys := false, apart := false }
def GraphChecksSaid : Prop := graphChecksRow.holds Try.pinned (OpenSpec.ofChange graphChecksSpec)

/-- ITS FALSE NEIGHBOUR: 'it returns false'. Refute it at one input. -/
def graphChecksWrong : ChangeSpec := { name := "graphChecks", fn := fun _ => fun
  | [d] => { results := [.lit (.bool false)], args := [d] }
  | _ => none }
def GraphChecksWrongFalsely : Prop := graphChecksRow.holds Try.pinned (OpenSpec.ofChange graphChecksWrong)

/-- 'sandpilelaw08.GraphMakes': WHATEVER THE INPUT: true; the input reads as it did. -/
def graphMakesSpec : ChangeSpec := { name := "graphMakes", fn := fun _ => fun
  | [d1, d2, d3] => { results := [.lit (.bool true)], args := [d1, d2, d3] }
  | _ => none }
def graphMakesRow : OpenClaim := { program := "ytbdpkgckdkpepaa", sum := "e505fdfb4eed79485f2bf97394a80fafd808e429cdd0d5b39dabab997e12325e", func := "sandpile/sandpilelaw08.GraphMakes", spec := "graphMakes", unfollowed := true, recurses := true, plainKeys := false, apart := false }
def GraphMakesSaid : Prop := graphMakesRow.holds Try.pinned (OpenSpec.ofChange graphMakesSpec)

/-- ITS FALSE NEIGHBOUR: 'it returns false'. Refute it at one input. -/
def graphMakesWrong : ChangeSpec := { name := "graphMakes", fn := fun _ => fun
  | [d1, d2, d3] => { results := [.lit (.bool false)], args := [d1, d2, d3] }
  | _ => none }
def GraphMakesWrongFalsely : Prop := graphMakesRow.holds Try.pinned (OpenSpec.ofChange graphMakesWrong)

/-- 'sandpilelaw08.GraphCuts': WHATEVER THE INPUT: true; the input reads as it did. -/
def graphCutsSpec : ChangeSpec := { name := "graphCuts", fn := fun _ => fun
  | [d1, d2] => { results := [.lit (.bool true)], args := [d1, d2] }
  | _ => none }
def graphCutsRow : OpenClaim := { program := "ytbdpkgckdkpepaa", sum := "e505fdfb4eed79485f2bf97394a80fafd808e429cdd0d5b39dabab997e12325e", func := "sandpile/sandpilelaw08.GraphCuts", spec := "graphCuts", unfollowed := true, recurses := true, plainKeys := false, apart := false }
def GraphCutsSaid : Prop := graphCutsRow.holds Try.pinned (OpenSpec.ofChange graphCutsSpec)

/-- ITS FALSE NEIGHBOUR: 'it returns false'. Refute it at one input. -/
def graphCutsWrong : ChangeSpec := { name := "graphCuts", fn := fun _ => fun
  | [d1, d2] => { results := [.lit (.bool false)], args := [d1, d2] }
  | _ => none }
def GraphCutsWrongFalsely : Prop := graphCutsRow.holds Try.pinned (OpenSpec.ofChange graphCutsWrong)

/-- 'sandpilelaw08.GraphDivides': WHATEVER THE INPUT: true; the input reads as it did. -/
def graphDividesSpec : ChangeSpec := { name := "graphDivides", fn := fun _ => fun
  | [d1, d2] => { results := [.lit (.bool true)], args := [d1, d2] }
  | _ => none }
def graphDividesRow : OpenClaim := { program := "ytbdpkgckdkpepaa", sum := "e505fdfb4eed79485f2bf97394a80fafd808e429cdd0d5b39dabab997e12325e", func := "sandpile/sandpilelaw08.GraphDivides", spec := "graphDivides", unfollowed := true, recurses := true, plainKeys := false, apart := false }
def GraphDividesSaid : Prop := graphDividesRow.holds Try.pinned (OpenSpec.ofChange graphDividesSpec)

/-- ITS FALSE NEIGHBOUR: 'it returns false'. Refute it at one input. -/
def graphDividesWrong : ChangeSpec := { name := "graphDivides", fn := fun _ => fun
  | [d1, d2] => { results := [.lit (.bool false)], args := [d1, d2] }
  | _ => none }
def GraphDividesWrongFalsely : Prop := graphDividesRow.holds Try.pinned (OpenSpec.ofChange graphDividesWrong)

/-- 'sandpilelaw08.GraphRemakes': WHATEVER THE INPUT: true; the input reads as it did. -/
def graphRemakesSpec : ChangeSpec := { name := "graphRemakes", fn := fun _ => fun
  | [d1, d2] => { results := [.lit (.bool true)], args := [d1, d2] }
  | _ => none }
def graphRemakesRow : OpenClaim := { program := "ytbdpkgckdkpepaa", sum := "e505fdfb4eed79485f2bf97394a80fafd808e429cdd0d5b39dabab997e12325e", func := "sandpile/sandpilelaw08.GraphRemakes", spec := "graphRemakes", unfollowed := true, recurses := true, plainKeys := false, apart := false }
def GraphRemakesSaid : Prop := graphRemakesRow.holds Try.pinned (OpenSpec.ofChange graphRemakesSpec)

/-- ITS FALSE NEIGHBOUR: 'it returns false'. Refute it at one input. -/
def graphRemakesWrong : ChangeSpec := { name := "graphRemakes", fn := fun _ => fun
  | [d1, d2] => { results := [.lit (.bool false)], args := [d1, d2] }
  | _ => none }
def GraphRemakesWrongFalsely : Prop := graphRemakesRow.holds Try.pinned (OpenSpec.ofChange graphRemakesWrong)

/-- 'sandpilelaw08.GraphRenames': WHATEVER THE INPUT: true; the input reads as it did. -/
def graphRenamesSpec : ChangeSpec := { name := "graphRenames", fn := fun _ => fun
  | [d1, d2] => { results := [.lit (.bool true)], args := [d1, d2] }
  | _ => none }
def graphRenamesRow : OpenClaim := { program := "ytbdpkgckdkpepaa", sum := "e505fdfb4eed79485f2bf97394a80fafd808e429cdd0d5b39dabab997e12325e", func := "sandpile/sandpilelaw08.GraphRenames", spec := "graphRenames", unfollowed := true, recurses := true, plainKeys := false, apart := false }
def GraphRenamesSaid : Prop := graphRenamesRow.holds Try.pinned (OpenSpec.ofChange graphRenamesSpec)

/-- ITS FALSE NEIGHBOUR: 'it returns false'. Refute it at one input. -/
def graphRenamesWrong : ChangeSpec := { name := "graphRenames", fn := fun _ => fun
  | [d1, d2] => { results := [.lit (.bool false)], args := [d1, d2] }
  | _ => none }
def GraphRenamesWrongFalsely : Prop := graphRenamesRow.holds Try.pinned (OpenSpec.ofChange graphRenamesWrong)

/-- 'sandpilelaw08.GraphCounts': WHATEVER THE INPUT: true; the input reads as it did. -/
def graphCountsSpec : ChangeSpec := { name := "graphCounts", fn := fun _ => fun
  | [d1, d2, d3] => { results := [.lit (.bool true)], args := [d1, d2, d3] }
  | _ => none }
def graphCountsRow : OpenClaim := { program := "ytbdpkgckdkpepaa", sum := "e505fdfb4eed79485f2bf97394a80fafd808e429cdd0d5b39dabab997e12325e", func := "sandpile/sandpilelaw08.GraphCounts", spec := "graphCounts", unfollowed := true, recurses := true, plainKeys := false, apart := false }
def GraphCountsSaid : Prop := graphCountsRow.holds Try.pinned (OpenSpec.ofChange graphCountsSpec)

/-- ITS FALSE NEIGHBOUR: 'it returns false'. Refute it at one input. -/
def graphCountsWrong : ChangeSpec := { name := "graphCounts", fn := fun _ => fun
  | [d1, d2, d3] => { results := [.lit (.bool false)], args := [d1, d2, d3] }
  | _ => none }
def GraphCountsWrongFalsely : Prop := graphCountsRow.holds Try.pinned (OpenSpec.ofChange graphCountsWrong)

/-- 'sandpilelaw08.GraphHandshakes': WHATEVER THE INPUT: true; the input reads as it did. -/
def graphHandshakesSpec : ChangeSpec := { name := "graphHandshakes", fn := fun _ => fun
  | [d] => { results := [.lit (.bool true)], args := [d] }
  | _ => none }
def graphHandshakesRow : OpenClaim := { program := "ytbdpkgckdkpepaa", sum := "e505fdfb4eed79485f2bf97394a80fafd808e429cdd0d5b39dabab997e12325e", func := "sandpile/sandpilelaw08.GraphHandshakes", spec := "graphHandshakes", unfollowed := true, recurses := true, plainKeys := false, apart := false }
def GraphHandshakesSaid : Prop := graphHandshakesRow.holds Try.pinned (OpenSpec.ofChange graphHandshakesSpec)

/-- ITS FALSE NEIGHBOUR: 'it returns false'. Refute it at one input. -/
def graphHandshakesWrong : ChangeSpec := { name := "graphHandshakes", fn := fun _ => fun
  | [d] => { results := [.lit (.bool false)], args := [d] }
  | _ => none }
def GraphHandshakesWrongFalsely : Prop := graphHandshakesRow.holds Try.pinned (OpenSpec.ofChange graphHandshakesWrong)

/-- 'sandpilelaw08.GraphChanges': WHATEVER THE INPUT: true; the input reads as it did. -/
def graphChangesSpec : ChangeSpec := { name := "graphChanges", fn := fun _ => fun
  | [d1, d2] => { results := [.lit (.bool true)], args := [d1, d2] }
  | _ => none }
def graphChangesRow : OpenClaim := { program := "ytbdpkgckdkpepaa", sum := "e505fdfb4eed79485f2bf97394a80fafd808e429cdd0d5b39dabab997e12325e", func := "sandpile/sandpilelaw08.GraphChanges", spec := "graphChanges", unfollowed := true, recurses := true, plainKeys := false, apart := false }
def GraphChangesSaid : Prop := graphChangesRow.holds Try.pinned (OpenSpec.ofChange graphChangesSpec)

/-- ITS FALSE NEIGHBOUR: 'it returns false'. Refute it at one input. -/
def graphChangesWrong : ChangeSpec := { name := "graphChanges", fn := fun _ => fun
  | [d1, d2] => { results := [.lit (.bool false)], args := [d1, d2] }
  | _ => none }
def GraphChangesWrongFalsely : Prop := graphChangesRow.holds Try.pinned (OpenSpec.ofChange graphChangesWrong)

/- THE SECOND FORM. 'bulk': how many values and letters a reading holds, each counted each time it is reached (what is shared counts as often as it is met; a slice's spare places count too). A statement '..UptoSaid' is the law's where the arguments, and the package variables that the reading takes, are together of bulk at most 1048576: NARROWER than '..Said'. Prove '..Said' where nothing that the law and all that it calls make is longer than what came in: it says more and counts as full. Else prove '..UptoSaid'. A law counts once. -/
mutual
def uptoBulk {H : Type} : DataW H → Nat
  | .lit (.string bytes) => bytes.length + 1
  | .lit _ => 1
  | .nil => 1
  | .ptr d => uptoBulk d + 1
  | .slice elems spare => uptoBulkAll elems + uptoBulkAll spare + 1
  | .agg parts => uptoBulkAll parts + 1
  | .iface _ d => uptoBulk d + 1
  | .map entries => uptoBulkEntries entries + 1
  | .held _ => 1
def uptoBulkAll {H : Type} : List (DataW H) → Nat
  | [] => 0
  | d :: r => uptoBulk d + uptoBulkAll r
def uptoBulkEntries {H : Type} : List (Lit × DataW H) → Nat
  | [] => 0
  | x :: r => uptoBulkEntry x + uptoBulkEntries r
def uptoBulkEntry {H : Type} : Lit × DataW H → Nat
  | (.string bytes, d) => bytes.length + uptoBulk d + 1
  | (_, d) => uptoBulk d + 1
 end
def uptoSmall : (H : Type) → List (DataW H) → Bool := fun _ ds => decide (uptoBulkAll ds ≤ 1048576)
def OpenSpec.upto (s : _root_.Go.ChangeSpec) : _root_.Go.OpenSpec := { _root_.Go.OpenSpec.ofChange s with cond := some uptoSmall }

/-- 'sandpilelaw08.GraphChecks', WHERE WHAT IT READS IS OF BULK AT MOST 1048576: true; the input reads as it did. -/
def graphChecksUptoRow : OpenClaim := { program := "ytbdpkgckdkpepaa", sum := "e505fdfb4eed79485f2bf97394a80fafd808e429cdd0d5b39dabab997e12325e", func := "sandpile/sandpilelaw08.GraphChecks", spec := "graphChecks", unfollowed := true, recurses := true, plainKeys := false, apart := false, narrowed := true }
def GraphChecksUptoSaid : Prop := graphChecksUptoRow.holds Try.pinned (OpenSpec.upto graphChecksSpec)

/-- 'sandpilelaw08.GraphMakes', WHERE WHAT IT READS IS OF BULK AT MOST 1048576: true; the input reads as it did. -/
def graphMakesUptoRow : OpenClaim := { program := "ytbdpkgckdkpepaa", sum := "e505fdfb4eed79485f2bf97394a80fafd808e429cdd0d5b39dabab997e12325e", func := "sandpile/sandpilelaw08.GraphMakes", spec := "graphMakes", unfollowed := true, recurses := true, plainKeys := false, apart := false, narrowed := true }
def GraphMakesUptoSaid : Prop := graphMakesUptoRow.holds Try.pinned (OpenSpec.upto graphMakesSpec)

/-- 'sandpilelaw08.GraphCuts', WHERE WHAT IT READS IS OF BULK AT MOST 1048576: true; the input reads as it did. -/
def graphCutsUptoRow : OpenClaim := { program := "ytbdpkgckdkpepaa", sum := "e505fdfb4eed79485f2bf97394a80fafd808e429cdd0d5b39dabab997e12325e", func := "sandpile/sandpilelaw08.GraphCuts", spec := "graphCuts", unfollowed := true, recurses := true, plainKeys := false, apart := false, narrowed := true }
def GraphCutsUptoSaid : Prop := graphCutsUptoRow.holds Try.pinned (OpenSpec.upto graphCutsSpec)

/-- 'sandpilelaw08.GraphDivides', WHERE WHAT IT READS IS OF BULK AT MOST 1048576: true; the input reads as it did. -/
def graphDividesUptoRow : OpenClaim := { program := "ytbdpkgckdkpepaa", sum := "e505fdfb4eed79485f2bf97394a80fafd808e429cdd0d5b39dabab997e12325e", func := "sandpile/sandpilelaw08.GraphDivides", spec := "graphDivides", unfollowed := true, recurses := true, plainKeys := false, apart := false, narrowed := true }
def GraphDividesUptoSaid : Prop := graphDividesUptoRow.holds Try.pinned (OpenSpec.upto graphDividesSpec)

/-- 'sandpilelaw08.GraphRemakes', WHERE WHAT IT READS IS OF BULK AT MOST 1048576: true; the input reads as it did. -/
def graphRemakesUptoRow : OpenClaim := { program := "ytbdpkgckdkpepaa", sum := "e505fdfb4eed79485f2bf97394a80fafd808e429cdd0d5b39dabab997e12325e", func := "sandpile/sandpilelaw08.GraphRemakes", spec := "graphRemakes", unfollowed := true, recurses := true, plainKeys := false, apart := false, narrowed := true }
def GraphRemakesUptoSaid : Prop := graphRemakesUptoRow.holds Try.pinned (OpenSpec.upto graphRemakesSpec)

/-- 'sandpilelaw08.GraphRenames', WHERE WHAT IT READS IS OF BULK AT MOST 1048576: true; the input reads as it did. -/
def graphRenamesUptoRow : OpenClaim := { program := "ytbdpkgckdkpepaa", sum := "e505fdfb4eed79485f2bf97394a80fafd808e429cdd0d5b39dabab997e12325e", func := "sandpile/sandpilelaw08.GraphRenames", spec := "graphRenames", unfollowed := true, recurses := true, plainKeys := false, apart := false, narrowed := true }
def GraphRenamesUptoSaid : Prop := graphRenamesUptoRow.holds Try.pinned (OpenSpec.upto graphRenamesSpec)

/-- 'sandpilelaw08.GraphCounts', WHERE WHAT IT READS IS OF BULK AT MOST 1048576: true; the input reads as it did. -/
def graphCountsUptoRow : OpenClaim := { program := "ytbdpkgckdkpepaa", sum := "e505fdfb4eed79485f2bf97394a80fafd808e429cdd0d5b39dabab997e12325e", func := "sandpile/sandpilelaw08.GraphCounts", spec := "graphCounts", unfollowed := true, recurses := true, plainKeys := false, apart := false, narrowed := true }
def GraphCountsUptoSaid : Prop := graphCountsUptoRow.holds Try.pinned (OpenSpec.upto graphCountsSpec)

/-- 'sandpilelaw08.GraphHandshakes', WHERE WHAT IT READS IS OF BULK AT MOST 1048576: true; the input reads as it did. -/
def graphHandshakesUptoRow : OpenClaim := { program := "ytbdpkgckdkpepaa", sum := "e505fdfb4eed79485f2bf97394a80fafd808e429cdd0d5b39dabab997e12325e", func := "sandpile/sandpilelaw08.GraphHandshakes", spec := "graphHandshakes", unfollowed := true, recurses := true, plainKeys := false, apart := false, narrowed := true }
def GraphHandshakesUptoSaid : Prop := graphHandshakesUptoRow.holds Try.pinned (OpenSpec.upto graphHandshakesSpec)

/-- 'sandpilelaw08.GraphChanges', WHERE WHAT IT READS IS OF BULK AT MOST 1048576: true; the input reads as it did. -/
def graphChangesUptoRow : OpenClaim := { program := "ytbdpkgckdkpepaa", sum := "e505fdfb4eed79485f2bf97394a80fafd808e429cdd0d5b39dabab997e12325e", func := "sandpile/sandpilelaw08.GraphChanges", spec := "graphChanges", unfollowed := true, recurses := true, plainKeys := false, apart := false, narrowed := true }
def GraphChangesUptoSaid : Prop := graphChangesUptoRow.holds Try.pinned (OpenSpec.upto graphChangesSpec)

end Rows
end Go.Proofs.Ytbdpkgckdkpepaa
