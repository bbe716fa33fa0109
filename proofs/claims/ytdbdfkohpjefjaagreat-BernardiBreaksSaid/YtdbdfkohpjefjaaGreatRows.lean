/-
  No cell of these rows narrows 'for every input' (looked for: loops, veiled, ifaces, maps, wideKeys, modest, calm, conditions, laid).
  DERIVED. THE GIVEN ROWS OF THIS SEAT. 7 by the template 'for every input the law returns true; each argument reads behind the call as it read before'; 0 by the template 'total and deterministic' (their statements: YtdbdfkohpjefjaaGreatTotals.lean).
  GIVEN WITH THE SEED: the statements are not yours to turn. If you find one false, say at which input.
  Laid BY PROGRAM, IN A SANDBOX (cutbox-rows.mjs): the forced cells as the released guide's own fill.sh prints them over the translation 2619f3034c42853d… (all of the seat's roots in one cut). By AI agents, Wed Nov 11 2026. No macro, syntax, notation, axiom, sorry.
-/
import Derived.Test.YtdbdfkohpjefjaaGreatChecked
import GoSem.Claim
import GoSem.ClaimJoined
import GoSem.ClaimMapViews
import Derived.JoinedTies
import Derived.KernelRfl
namespace Go.Proofs.YtdbdfkohpjefjaaGreat
/- THE CELL 'sum', in the pinned program and in every row, IS THE sha256 OF THE DUMP (.gsa) THAT YtdbdfkohpjefjaaGreatProg.lean LOADS. Nothing in Lean hashes anything: it is a label: what it is worth is what the hold of that sum in a sandbox is worth. -/
noncomputable def Tryz.pinned : Pinned := { name := "ytdbdfkohpjefjaagreat", sum := "2619f3034c42853d760cb8cabe6c495283666d92adf1736c5ded83bce7613a7e", checked := Tryz.checked }
namespace Rows
def none {H : Type} : Left H := { results := [], args := [] }

/-- 'sandpilelaw48.BernardiTours': WHATEVER THE INPUT: true; the input reads as it did. -/
def bernardiToursSpec : ChangeSpec := { name := "bernardiTours", fn := fun _ => fun
  | [d1, d2] => { results := [.lit (.bool true)], args := [d1, d2] }
  | _ => none }
def bernardiToursRow : OpenClaim := { program := "ytdbdfkohpjefjaagreat", sum := "2619f3034c42853d760cb8cabe6c495283666d92adf1736c5ded83bce7613a7e", func := "sandpile/sandpilelaw48.BernardiTours", spec := "bernardiTours", unfollowed := true, recurses := true, plainKeys := false, apart := false }
def BernardiToursSaid : Prop := bernardiToursRow.holds Tryz.pinned (OpenSpec.ofChange bernardiToursSpec)

/-- ITS FALSE NEIGHBOUR: 'it returns false'. Refute it at one input. -/
def bernardiToursWrong : ChangeSpec := { name := "bernardiTours", fn := fun _ => fun
  | [d1, d2] => { results := [.lit (.bool false)], args := [d1, d2] }
  | _ => none }
def BernardiToursWrongFalsely : Prop := bernardiToursRow.holds Tryz.pinned (OpenSpec.ofChange bernardiToursWrong)

/-- 'sandpilelaw48.BernardiActs': WHATEVER THE INPUT: true; the input reads as it did. -/
def bernardiActsSpec : ChangeSpec := { name := "bernardiActs", fn := fun _ => fun
  | [d1, d2, d3] => { results := [.lit (.bool true)], args := [d1, d2, d3] }
  | _ => none }
def bernardiActsRow : OpenClaim := { program := "ytdbdfkohpjefjaagreat", sum := "2619f3034c42853d760cb8cabe6c495283666d92adf1736c5ded83bce7613a7e", func := "sandpile/sandpilelaw48.BernardiActs", spec := "bernardiActs", unfollowed := true, recurses := true, plainKeys := false, apart := false }
def BernardiActsSaid : Prop := bernardiActsRow.holds Tryz.pinned (OpenSpec.ofChange bernardiActsSpec)

/-- ITS FALSE NEIGHBOUR: 'it returns false'. Refute it at one input. -/
def bernardiActsWrong : ChangeSpec := { name := "bernardiActs", fn := fun _ => fun
  | [d1, d2, d3] => { results := [.lit (.bool false)], args := [d1, d2, d3] }
  | _ => none }
def BernardiActsWrongFalsely : Prop := bernardiActsRow.holds Tryz.pinned (OpenSpec.ofChange bernardiActsWrong)

/-- 'sandpilelaw48.BernardiPairs': WHATEVER THE INPUT: true; the input reads as it did. -/
def bernardiPairsSpec : ChangeSpec := { name := "bernardiPairs", fn := fun _ => fun
  | [d] => { results := [.lit (.bool true)], args := [d] }
  | _ => none }
def bernardiPairsRow : OpenClaim := { program := "ytdbdfkohpjefjaagreat", sum := "2619f3034c42853d760cb8cabe6c495283666d92adf1736c5ded83bce7613a7e", func := "sandpile/sandpilelaw48.BernardiPairs", spec := "bernardiPairs", unfollowed := true, recurses := true, plainKeys := false, apart := false }
def BernardiPairsSaid : Prop := bernardiPairsRow.holds Tryz.pinned (OpenSpec.ofChange bernardiPairsSpec)

/-- ITS FALSE NEIGHBOUR: 'it returns false'. Refute it at one input. -/
def bernardiPairsWrong : ChangeSpec := { name := "bernardiPairs", fn := fun _ => fun
  | [d] => { results := [.lit (.bool false)], args := [d] }
  | _ => none }
def BernardiPairsWrongFalsely : Prop := bernardiPairsRow.holds Tryz.pinned (OpenSpec.ofChange bernardiPairsWrong)

/-- 'sandpilelaw48.BernardiGroup': WHATEVER THE INPUT: true; the input reads as it did. -/
def bernardiGroupSpec : ChangeSpec := { name := "bernardiGroup", fn := fun _ => fun
  | [d1, d2, d3] => { results := [.lit (.bool true)], args := [d1, d2, d3] }
  | _ => none }
def bernardiGroupRow : OpenClaim := { program := "ytdbdfkohpjefjaagreat", sum := "2619f3034c42853d760cb8cabe6c495283666d92adf1736c5ded83bce7613a7e", func := "sandpile/sandpilelaw48.BernardiGroup", spec := "bernardiGroup", unfollowed := true, recurses := true, plainKeys := false, apart := false }
def BernardiGroupSaid : Prop := bernardiGroupRow.holds Tryz.pinned (OpenSpec.ofChange bernardiGroupSpec)

/-- ITS FALSE NEIGHBOUR: 'it returns false'. Refute it at one input. -/
def bernardiGroupWrong : ChangeSpec := { name := "bernardiGroup", fn := fun _ => fun
  | [d1, d2, d3] => { results := [.lit (.bool false)], args := [d1, d2, d3] }
  | _ => none }
def BernardiGroupWrongFalsely : Prop := bernardiGroupRow.holds Tryz.pinned (OpenSpec.ofChange bernardiGroupWrong)

/-- 'sandpilelaw48.BernardiBreaks': WHATEVER THE INPUT: true; the input reads as it did. -/
def bernardiBreaksSpec : ChangeSpec := { name := "bernardiBreaks", fn := fun _ => fun
  | [d1, d2] => { results := [.lit (.bool true)], args := [d1, d2] }
  | _ => none }
def bernardiBreaksRow : OpenClaim := { program := "ytdbdfkohpjefjaagreat", sum := "2619f3034c42853d760cb8cabe6c495283666d92adf1736c5ded83bce7613a7e", func := "sandpile/sandpilelaw48.BernardiBreaks", spec := "bernardiBreaks", unfollowed := true, recurses := true, plainKeys := false, apart := false }
def BernardiBreaksSaid : Prop := bernardiBreaksRow.holds Tryz.pinned (OpenSpec.ofChange bernardiBreaksSpec)

/-- ITS FALSE NEIGHBOUR: 'it returns false'. Refute it at one input. -/
def bernardiBreaksWrong : ChangeSpec := { name := "bernardiBreaks", fn := fun _ => fun
  | [d1, d2] => { results := [.lit (.bool false)], args := [d1, d2] }
  | _ => none }
def BernardiBreaksWrongFalsely : Prop := bernardiBreaksRow.holds Tryz.pinned (OpenSpec.ofChange bernardiBreaksWrong)

/-- 'sandpilelaw48.BernardiOnce': WHATEVER THE INPUT: true; the input reads as it did. -/
def bernardiOnceSpec : ChangeSpec := { name := "bernardiOnce", fn := fun _ => fun
  | [d1, d2] => { results := [.lit (.bool true)], args := [d1, d2] }
  | _ => none }
def bernardiOnceRow : OpenClaim := { program := "ytdbdfkohpjefjaagreat", sum := "2619f3034c42853d760cb8cabe6c495283666d92adf1736c5ded83bce7613a7e", func := "sandpile/sandpilelaw48.BernardiOnce", spec := "bernardiOnce", unfollowed := true, recurses := true, plainKeys := false, apart := false }
def BernardiOnceSaid : Prop := bernardiOnceRow.holds Tryz.pinned (OpenSpec.ofChange bernardiOnceSpec)

/-- ITS FALSE NEIGHBOUR: 'it returns false'. Refute it at one input. -/
def bernardiOnceWrong : ChangeSpec := { name := "bernardiOnce", fn := fun _ => fun
  | [d1, d2] => { results := [.lit (.bool false)], args := [d1, d2] }
  | _ => none }
def BernardiOnceWrongFalsely : Prop := bernardiOnceRow.holds Tryz.pinned (OpenSpec.ofChange bernardiOnceWrong)

/-- 'sandpilelaw48.BernardiSets': WHATEVER THE INPUT: true; the input reads as it did. -/
def bernardiSetsSpec : ChangeSpec := { name := "bernardiSets", fn := fun _ => fun
  | [d1, d2] => { results := [.lit (.bool true)], args := [d1, d2] }
  | _ => none }
def bernardiSetsRow : OpenClaim := { program := "ytdbdfkohpjefjaagreat", sum := "2619f3034c42853d760cb8cabe6c495283666d92adf1736c5ded83bce7613a7e", func := "sandpile/sandpilelaw48.BernardiSets", spec := "bernardiSets", unfollowed := true, recurses := true, plainKeys := false, apart := false }
def BernardiSetsSaid : Prop := bernardiSetsRow.holds Tryz.pinned (OpenSpec.ofChange bernardiSetsSpec)

/-- ITS FALSE NEIGHBOUR: 'it returns false'. Refute it at one input. -/
def bernardiSetsWrong : ChangeSpec := { name := "bernardiSets", fn := fun _ => fun
  | [d1, d2] => { results := [.lit (.bool false)], args := [d1, d2] }
  | _ => none }
def BernardiSetsWrongFalsely : Prop := bernardiSetsRow.holds Tryz.pinned (OpenSpec.ofChange bernardiSetsWrong)

/- THE SECOND FORM. 'bulk': how many values and letters a reading holds, each counted each time it is reached (what is shared counts as often as it is met; a slice's spare places count too). A statement '..UptoSaid' is the law's where the arguments, and the package variables that the reading takes, are together of bulk at most 1048576: NARROWER than '..Said'. Prove '..Said' where nothing that the law and all that it calls make is longer than what came in: it says more and counts as full. Else prove '..UptoSaid'. A law counts once. -/
mutual
def uptoBulk {H : Type} : DataW H → Nat
  | .lit (.string bytes) => bytes.length + 1
  | .lit _ => 1
  | .nil => 1
  | .ptr d => uptoBulk d + 1
  | .slice elems spare => uptoBulkAll elems + uptoBulkAll spare + 1
  | .agg parts => uptoBulkAll parts + 1
  | .iface _ d => uptoBulk d + 1
  | .map entries => uptoBulkEntries entries + 1
  | .held _ => 1
def uptoBulkAll {H : Type} : List (DataW H) → Nat
  | [] => 0
  | d :: r => uptoBulk d + uptoBulkAll r
def uptoBulkEntries {H : Type} : List (Lit × DataW H) → Nat
  | [] => 0
  | x :: r => uptoBulkEntry x + uptoBulkEntries r
def uptoBulkEntry {H : Type} : Lit × DataW H → Nat
  | (.string bytes, d) => bytes.length + uptoBulk d + 1
  | (_, d) => uptoBulk d + 1
 end
def uptoSmall : (H : Type) → List (DataW H) → Bool := fun _ ds => decide (uptoBulkAll ds ≤ 1048576)
def OpenSpec.upto (s : _root_.Go.ChangeSpec) : _root_.Go.OpenSpec := { _root_.Go.OpenSpec.ofChange s with cond := some uptoSmall }

/-- 'sandpilelaw48.BernardiTours', WHERE WHAT IT READS IS OF BULK AT MOST 1048576: true; the input reads as it did. -/
def bernardiToursUptoRow : OpenClaim := { program := "ytdbdfkohpjefjaagreat", sum := "2619f3034c42853d760cb8cabe6c495283666d92adf1736c5ded83bce7613a7e", func := "sandpile/sandpilelaw48.BernardiTours", spec := "bernardiTours", unfollowed := true, recurses := true, plainKeys := false, apart := false, narrowed := true }
def BernardiToursUptoSaid : Prop := bernardiToursUptoRow.holds Tryz.pinned (OpenSpec.upto bernardiToursSpec)

/-- 'sandpilelaw48.BernardiActs', WHERE WHAT IT READS IS OF BULK AT MOST 1048576: true; the input reads as it did. -/
def bernardiActsUptoRow : OpenClaim := { program := "ytdbdfkohpjefjaagreat", sum := "2619f3034c42853d760cb8cabe6c495283666d92adf1736c5ded83bce7613a7e", func := "sandpile/sandpilelaw48.BernardiActs", spec := "bernardiActs", unfollowed := true, recurses := true, plainKeys := false, apart := false, narrowed := true }
def BernardiActsUptoSaid : Prop := bernardiActsUptoRow.holds Tryz.pinned (OpenSpec.upto bernardiActsSpec)

/-- 'sandpilelaw48.BernardiPairs', WHERE WHAT IT READS IS OF BULK AT MOST 1048576: true; the input reads as it did. -/
def bernardiPairsUptoRow : OpenClaim := { program := "ytdbdfkohpjefjaagreat", sum := "2619f3034c42853d760cb8cabe6c495283666d92adf1736c5ded83bce7613a7e", func := "sandpile/sandpilelaw48.BernardiPairs", spec := "bernardiPairs", unfollowed := true, recurses := true, plainKeys := false, apart := false, narrowed := true }
def BernardiPairsUptoSaid : Prop := bernardiPairsUptoRow.holds Tryz.pinned (OpenSpec.upto bernardiPairsSpec)

/-- 'sandpilelaw48.BernardiGroup', WHERE WHAT IT READS IS OF BULK AT MOST 1048576: true; the input reads as it did. -/
def bernardiGroupUptoRow : OpenClaim := { program := "ytdbdfkohpjefjaagreat", sum := "2619f3034c42853d760cb8cabe6c495283666d92adf1736c5ded83bce7613a7e", func := "sandpile/sandpilelaw48.BernardiGroup", spec := "bernardiGroup", unfollowed := true, recurses := true, plainKeys := false, apart := false, narrowed := true }
def BernardiGroupUptoSaid : Prop := bernardiGroupUptoRow.holds Tryz.pinned (OpenSpec.upto bernardiGroupSpec)

/-- 'sandpilelaw48.BernardiBreaks', WHERE WHAT IT READS IS OF BULK AT MOST 1048576: true; the input reads as it did. -/
def bernardiBreaksUptoRow : OpenClaim := { program := "ytdbdfkohpjefjaagreat", sum := "2619f3034c42853d760cb8cabe6c495283666d92adf1736c5ded83bce7613a7e", func := "sandpile/sandpilelaw48.BernardiBreaks", spec := "bernardiBreaks", unfollowed := true, recurses := true, plainKeys := false, apart := false, narrowed := true }
def BernardiBreaksUptoSaid : Prop := bernardiBreaksUptoRow.holds Tryz.pinned (OpenSpec.upto bernardiBreaksSpec)

/-- 'sandpilelaw48.BernardiOnce', WHERE WHAT IT READS IS OF BULK AT MOST 1048576: true; the input reads as it did. -/
def bernardiOnceUptoRow : OpenClaim := { program := "ytdbdfkohpjefjaagreat", sum := "2619f3034c42853d760cb8cabe6c495283666d92adf1736c5ded83bce7613a7e", func := "sandpile/sandpilelaw48.BernardiOnce", spec := "bernardiOnce", unfollowed := true, recurses := true, plainKeys := false, apart := false, narrowed := true }
def BernardiOnceUptoSaid : Prop := bernardiOnceUptoRow.holds Tryz.pinned (OpenSpec.upto bernardiOnceSpec)

/-- 'sandpilelaw48.BernardiSets', WHERE WHAT IT READS IS OF BULK AT MOST 1048576: true; the input reads as it did. -/
def bernardiSetsUptoRow : OpenClaim := { program := "ytdbdfkohpjefjaagreat", sum := "2619f3034c42853d760cb8cabe6c495283666d92adf1736c5ded83bce7613a7e", func := "sandpile/sandpilelaw48.BernardiSets", spec := "bernardiSets", unfollowed := true, recurses := true, plainKeys := false, apart := false, narrowed := true }
def BernardiSetsUptoSaid : Prop := bernardiSetsUptoRow.holds Tryz.pinned (OpenSpec.upto bernardiSetsSpec)

end Rows
end Go.Proofs.YtdbdfkohpjefjaaGreat
