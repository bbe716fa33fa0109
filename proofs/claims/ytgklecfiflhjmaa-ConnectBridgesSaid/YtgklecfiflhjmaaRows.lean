/-
  No cell of these rows narrows 'for every input' (looked for: loops, veiled, ifaces, maps, wideKeys, modest, calm, conditions, laid).
  DERIVED. THE GIVEN ROWS OF THIS SEAT. 7 by the template 'for every input the law returns true; each argument reads behind the call as it read before'; 0 by the template 'total and deterministic' (their statements: YtgklecfiflhjmaaTotals.lean).
  GIVEN WITH THE SEED: the statements are not yours to turn. If you find one false, say at which input.
  Laid BY PROGRAM, IN A SANDBOX (cutbox-rows.mjs): the forced cells as the released guide's own fill.sh prints them over the translation a6db98896b2ff83b… (all of the seat's roots in one cut). By AI agents, Wed Nov 11 2026. No macro, syntax, notation, axiom, sorry.
-/
import Derived.Test.YtgklecfiflhjmaaChecked
import GoSem.Claim
import GoSem.ClaimJoined
import GoSem.ClaimMapViews
import Derived.JoinedTies
import Derived.KernelRfl
namespace Go.Proofs.Ytgklecfiflhjmaa
/- THE CELL 'sum', in the pinned program and in every row, IS THE sha256 OF THE DUMP (.gsa) THAT YtgklecfiflhjmaaProg.lean LOADS. Nothing in Lean hashes anything: it is a label: what it is worth is what the hold of that sum in a sandbox is worth. -/
noncomputable def Try.pinned : Pinned := { name := "ytgklecfiflhjmaa", sum := "a6db98896b2ff83b9031689667d166d6e1ada35b670a740598605af8bed59315", checked := Try.checked }
namespace Rows
def none {H : Type} : Left H := { results := [], args := [] }

/-- 'sandpilelaw10.ConnectBridges': WHATEVER THE INPUT: true; the input reads as it did. -/
def connectBridgesSpec : ChangeSpec := { name := "connectBridges", fn := fun _ => fun
  | [d] => { results := [.lit (.bool true)], args := [d] }
  | _ => none }
def connectBridgesRow : OpenClaim := { program := "ytgklecfiflhjmaa", sum := "a6db98896b2ff83b9031689667d166d6e1ada35b670a740598605af8bed59315", func := "sandpile/sandpilelaw10.ConnectBridges", spec := "connectBridges", unfollowed := true, recurses := true, apart := false }
def ConnectBridgesSaid : Prop := connectBridgesRow.holds Try.pinned (OpenSpec.ofChange connectBridgesSpec)

/-- ITS FALSE NEIGHBOUR: 'it returns false'. Refute it at one input. -/
def connectBridgesWrong : ChangeSpec := { name := "connectBridges", fn := fun _ => fun
  | [d] => { results := [.lit (.bool false)], args := [d] }
  | _ => none }
def ConnectBridgesWrongFalsely : Prop := connectBridgesRow.holds Try.pinned (OpenSpec.ofChange connectBridgesWrong)

/-- 'sandpilelaw10.ConnectBlocks': WHATEVER THE INPUT: true; the input reads as it did. -/
def connectBlocksSpec : ChangeSpec := { name := "connectBlocks", fn := fun _ => fun
  | [d] => { results := [.lit (.bool true)], args := [d] }
  | _ => none }
def connectBlocksRow : OpenClaim := { program := "ytgklecfiflhjmaa", sum := "a6db98896b2ff83b9031689667d166d6e1ada35b670a740598605af8bed59315", func := "sandpile/sandpilelaw10.ConnectBlocks", spec := "connectBlocks", unfollowed := true, recurses := true, apart := false }
def ConnectBlocksSaid : Prop := connectBlocksRow.holds Try.pinned (OpenSpec.ofChange connectBlocksSpec)

/-- ITS FALSE NEIGHBOUR: 'it returns false'. Refute it at one input. -/
def connectBlocksWrong : ChangeSpec := { name := "connectBlocks", fn := fun _ => fun
  | [d] => { results := [.lit (.bool false)], args := [d] }
  | _ => none }
def ConnectBlocksWrongFalsely : Prop := connectBlocksRow.holds Try.pinned (OpenSpec.ofChange connectBlocksWrong)

/-- 'sandpilelaw10.ConnectLeast': WHATEVER THE INPUT: true; the input reads as it did. -/
def connectLeastSpec : ChangeSpec := { name := "connectLeast", fn := fun _ => fun
  | [d1, d2] => { results := [.lit (.bool true)], args := [d1, d2] }
  | _ => none }
def connectLeastRow : OpenClaim := { program := "ytgklecfiflhjmaa", sum := "a6db98896b2ff83b9031689667d166d6e1ada35b670a740598605af8bed59315", func := "sandpile/sandpilelaw10.ConnectLeast", spec := "connectLeast", unfollowed := true, recurses := true, apart := false }
def ConnectLeastSaid : Prop := connectLeastRow.holds Try.pinned (OpenSpec.ofChange connectLeastSpec)

/-- ITS FALSE NEIGHBOUR: 'it returns false'. Refute it at one input. -/
def connectLeastWrong : ChangeSpec := { name := "connectLeast", fn := fun _ => fun
  | [d1, d2] => { results := [.lit (.bool false)], args := [d1, d2] }
  | _ => none }
def ConnectLeastWrongFalsely : Prop := connectLeastRow.holds Try.pinned (OpenSpec.ofChange connectLeastWrong)

/-- 'sandpilelaw10.ConnectDivides': WHATEVER THE INPUT: true; the input reads as it did. -/
def connectDividesSpec : ChangeSpec := { name := "connectDivides", fn := fun _ => fun
  | [d] => { results := [.lit (.bool true)], args := [d] }
  | _ => none }
def connectDividesRow : OpenClaim := { program := "ytgklecfiflhjmaa", sum := "a6db98896b2ff83b9031689667d166d6e1ada35b670a740598605af8bed59315", func := "sandpile/sandpilelaw10.ConnectDivides", spec := "connectDivides", unfollowed := true, recurses := true, apart := false }
def ConnectDividesSaid : Prop := connectDividesRow.holds Try.pinned (OpenSpec.ofChange connectDividesSpec)

/-- ITS FALSE NEIGHBOUR: 'it returns false'. Refute it at one input. -/
def connectDividesWrong : ChangeSpec := { name := "connectDivides", fn := fun _ => fun
  | [d] => { results := [.lit (.bool false)], args := [d] }
  | _ => none }
def ConnectDividesWrongFalsely : Prop := connectDividesRow.holds Try.pinned (OpenSpec.ofChange connectDividesWrong)

/-- 'sandpilelaw10.ConnectRemoves': WHATEVER THE INPUT: true; the input reads as it did. -/
def connectRemovesSpec : ChangeSpec := { name := "connectRemoves", fn := fun _ => fun
  | [d] => { results := [.lit (.bool true)], args := [d] }
  | _ => none }
def connectRemovesRow : OpenClaim := { program := "ytgklecfiflhjmaa", sum := "a6db98896b2ff83b9031689667d166d6e1ada35b670a740598605af8bed59315", func := "sandpile/sandpilelaw10.ConnectRemoves", spec := "connectRemoves", unfollowed := true, recurses := true, apart := false }
def ConnectRemovesSaid : Prop := connectRemovesRow.holds Try.pinned (OpenSpec.ofChange connectRemovesSpec)

/-- ITS FALSE NEIGHBOUR: 'it returns false'. Refute it at one input. -/
def connectRemovesWrong : ChangeSpec := { name := "connectRemoves", fn := fun _ => fun
  | [d] => { results := [.lit (.bool false)], args := [d] }
  | _ => none }
def ConnectRemovesWrongFalsely : Prop := connectRemovesRow.holds Try.pinned (OpenSpec.ofChange connectRemovesWrong)

/-- 'sandpilelaw10.ConnectParts': WHATEVER THE INPUT: true; the input reads as it did. -/
def connectPartsSpec : ChangeSpec := { name := "connectParts", fn := fun _ => fun
  | [d1, d2] => { results := [.lit (.bool true)], args := [d1, d2] }
  | _ => none }
def connectPartsRow : OpenClaim := { program := "ytgklecfiflhjmaa", sum := "a6db98896b2ff83b9031689667d166d6e1ada35b670a740598605af8bed59315", func := "sandpile/sandpilelaw10.ConnectParts", spec := "connectParts", unfollowed := true, recurses := true, apart := false }
def ConnectPartsSaid : Prop := connectPartsRow.holds Try.pinned (OpenSpec.ofChange connectPartsSpec)

/-- ITS FALSE NEIGHBOUR: 'it returns false'. Refute it at one input. -/
def connectPartsWrong : ChangeSpec := { name := "connectParts", fn := fun _ => fun
  | [d1, d2] => { results := [.lit (.bool false)], args := [d1, d2] }
  | _ => none }
def ConnectPartsWrongFalsely : Prop := connectPartsRow.holds Try.pinned (OpenSpec.ofChange connectPartsWrong)

/-- 'sandpilelaw10.ConnectCuts': WHATEVER THE INPUT: true; the input reads as it did. -/
def connectCutsSpec : ChangeSpec := { name := "connectCuts", fn := fun _ => fun
  | [d1, d2] => { results := [.lit (.bool true)], args := [d1, d2] }
  | _ => none }
def connectCutsRow : OpenClaim := { program := "ytgklecfiflhjmaa", sum := "a6db98896b2ff83b9031689667d166d6e1ada35b670a740598605af8bed59315", func := "sandpile/sandpilelaw10.ConnectCuts", spec := "connectCuts", unfollowed := true, recurses := true, apart := false }
def ConnectCutsSaid : Prop := connectCutsRow.holds Try.pinned (OpenSpec.ofChange connectCutsSpec)

/-- ITS FALSE NEIGHBOUR: 'it returns false'. Refute it at one input. -/
def connectCutsWrong : ChangeSpec := { name := "connectCuts", fn := fun _ => fun
  | [d1, d2] => { results := [.lit (.bool false)], args := [d1, d2] }
  | _ => none }
def ConnectCutsWrongFalsely : Prop := connectCutsRow.holds Try.pinned (OpenSpec.ofChange connectCutsWrong)

/- THE SECOND FORM. 'bulk': how many values and letters a reading holds, each counted each time it is reached (what is shared counts as often as it is met; a slice's spare places count too). A statement '..UptoSaid' is the law's where the arguments, and the package variables that the reading takes, are together of bulk at most 1048576: NARROWER than '..Said'. Prove '..Said' where nothing that the law and all that it calls make is longer than what came in: it says more and counts as full. Else prove '..UptoSaid'. A law counts once. -/
mutual
def uptoBulk {H : Type} : DataW H → Nat
  | .lit (.string bytes) => bytes.length + 1
  | .lit _ => 1
  | .nil => 1
  | .ptr d => uptoBulk d + 1
  | .slice elems spare => uptoBulkAll elems + uptoBulkAll spare + 1
  | .agg parts => uptoBulkAll parts + 1
  | .iface _ d => uptoBulk d + 1
  | .map entries => uptoBulkEntries entries + 1
  | .held _ => 1
def uptoBulkAll {H : Type} : List (DataW H) → Nat
  | [] => 0
  | d :: r => uptoBulk d + uptoBulkAll r
def uptoBulkEntries {H : Type} : List (Lit × DataW H) → Nat
  | [] => 0
  | x :: r => uptoBulkEntry x + uptoBulkEntries r
def uptoBulkEntry {H : Type} : Lit × DataW H → Nat
  | (.string bytes, d) => bytes.length + uptoBulk d + 1
  | (_, d) => uptoBulk d + 1
 end
def uptoSmall : (H : Type) → List (DataW H) → Bool := fun _ ds => decide (uptoBulkAll ds ≤ 1048576)
def OpenSpec.upto (s : _root_.Go.ChangeSpec) : _root_.Go.OpenSpec := { _root_.Go.OpenSpec.ofChange s with cond := some uptoSmall }

/-- 'sandpilelaw10.ConnectBridges', WHERE WHAT IT READS IS OF BULK AT MOST 1048576: true; the input reads as it did. -/
def connectBridgesUptoRow : OpenClaim := { program := "ytgklecfiflhjmaa", sum := "a6db98896b2ff83b9031689667d166d6e1ada35b670a740598605af8bed59315", func := "sandpile/sandpilelaw10.ConnectBridges", spec := "connectBridges", unfollowed := true, recurses := true, apart := false, narrowed := true }
def ConnectBridgesUptoSaid : Prop := connectBridgesUptoRow.holds Try.pinned (OpenSpec.upto connectBridgesSpec)

/-- 'sandpilelaw10.ConnectBlocks', WHERE WHAT IT READS IS OF BULK AT MOST 1048576: true; the input reads as it did. -/
def connectBlocksUptoRow : OpenClaim := { program := "ytgklecfiflhjmaa", sum := "a6db98896b2ff83b9031689667d166d6e1ada35b670a740598605af8bed59315", func := "sandpile/sandpilelaw10.ConnectBlocks", spec := "connectBlocks", unfollowed := true, recurses := true, apart := false, narrowed := true }
def ConnectBlocksUptoSaid : Prop := connectBlocksUptoRow.holds Try.pinned (OpenSpec.upto connectBlocksSpec)

/-- 'sandpilelaw10.ConnectLeast', WHERE WHAT IT READS IS OF BULK AT MOST 1048576: true; the input reads as it did. -/
def connectLeastUptoRow : OpenClaim := { program := "ytgklecfiflhjmaa", sum := "a6db98896b2ff83b9031689667d166d6e1ada35b670a740598605af8bed59315", func := "sandpile/sandpilelaw10.ConnectLeast", spec := "connectLeast", unfollowed := true, recurses := true, apart := false, narrowed := true }
def ConnectLeastUptoSaid : Prop := connectLeastUptoRow.holds Try.pinned (OpenSpec.upto connectLeastSpec)

/-- 'sandpilelaw10.ConnectDivides', WHERE WHAT IT READS IS OF BULK AT MOST 1048576: true; the input reads as it did. -/
def connectDividesUptoRow : OpenClaim := { program := "ytgklecfiflhjmaa", sum := "a6db98896b2ff83b9031689667d166d6e1ada35b670a740598605af8bed59315", func := "sandpile/sandpilelaw10.ConnectDivides", spec := "connectDivides", unfollowed := true, recurses := true, apart := false, narrowed := true }
def ConnectDividesUptoSaid : Prop := connectDividesUptoRow.holds Try.pinned (OpenSpec.upto connectDividesSpec)

/-- 'sandpilelaw10.ConnectRemoves', WHERE WHAT IT READS IS OF BULK AT MOST 1048576: true; the input reads as it did. -/
def connectRemovesUptoRow : OpenClaim := { program := "ytgklecfiflhjmaa", sum := "a6db98896b2ff83b9031689667d166d6e1ada35b670a740598605af8bed59315", func := "sandpile/sandpilelaw10.ConnectRemoves", spec := "connectRemoves", unfollowed := true, recurses := true, apart := false, narrowed := true }
def ConnectRemovesUptoSaid : Prop := connectRemovesUptoRow.holds Try.pinned (OpenSpec.upto connectRemovesSpec)

/-- 'sandpilelaw10.ConnectParts', WHERE WHAT IT READS IS OF BULK AT MOST 1048576: true; the input reads as it did. -/
def connectPartsUptoRow : OpenClaim := { program := "ytgklecfiflhjmaa", sum := "a6db98896b2ff83b9031689667d166d6e1ada35b670a740598605af8bed59315", func := "sandpile/sandpilelaw10.ConnectParts", spec := "connectParts", unfollowed := true, recurses := true, apart := false, narrowed := true }
def ConnectPartsUptoSaid : Prop := connectPartsUptoRow.holds Try.pinned (OpenSpec.upto connectPartsSpec)

/-- 'sandpilelaw10.ConnectCuts', WHERE WHAT IT READS IS OF BULK AT MOST 1048576: true; the input reads as it did. -/
def connectCutsUptoRow : OpenClaim := { program := "ytgklecfiflhjmaa", sum := "a6db98896b2ff83b9031689667d166d6e1ada35b670a740598605af8bed59315", func := "sandpile/sandpilelaw10.ConnectCuts", spec := "connectCuts", unfollowed := true, recurses := true, apart := false, narrowed := true }
def ConnectCutsUptoSaid : Prop := connectCutsUptoRow.holds Try.pinned (OpenSpec.upto connectCutsSpec)

end Rows
end Go.Proofs.Ytgklecfiflhjmaa
