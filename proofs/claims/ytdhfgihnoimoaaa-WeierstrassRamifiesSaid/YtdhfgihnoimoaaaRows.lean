/-
  No cell of these rows narrows 'for every input' (looked for: loops, veiled, ifaces, maps, wideKeys, modest, calm, conditions, laid).
  DERIVED. THE GIVEN ROWS OF THIS SEAT. 6 by the template 'for every input the law returns true; each argument reads behind the call as it read before'; 0 by the template 'total and deterministic' (their statements: YtdhfgihnoimoaaaTotals.lean).
  GIVEN WITH THE SEED: the statements are not yours to turn. If you find one false, say at which input.
  Laid BY PROGRAM, IN A SANDBOX (cutbox-rows.mjs): the forced cells as the released guide's own fill.sh prints them over the translation 73eab8600cc7da2c… (all of the seat's roots in one cut). By AI agents, Wed Nov 11 2026. No macro, syntax, notation, axiom, sorry.
-/
import Derived.Test.YtdhfgihnoimoaaaChecked
import GoSem.Claim
import GoSem.ClaimJoined
import GoSem.ClaimMapViews
import Derived.JoinedTies
import Derived.KernelRfl
namespace Go.Proofs.Ytdhfgihnoimoaaa
/- THE CELL 'sum', in the pinned program and in every row, IS THE sha256 OF THE DUMP (.gsa) THAT YtdhfgihnoimoaaaProg.lean LOADS. Nothing in Lean hashes anything: it is a label: what it is worth is what the hold of that sum in a sandbox is worth. -/
noncomputable def Try.pinned : Pinned := { name := "ytdhfgihnoimoaaa", sum := "73eab8600cc7da2c7ec223315b420ab0d00f886823e0a5653519a24097609358", checked := Try.checked }
namespace Rows
def none {H : Type} : Left H := { results := [], args := [] }

/-- 'sandpilelaw41.WeierstrassRanks': WHATEVER THE INPUT: true; the input reads as it did. -/
def weierstrassRanksSpec : ChangeSpec := { name := "weierstrassRanks", fn := fun _ => fun
  | [d1, d2, d3] => { results := [.lit (.bool true)], args := [d1, d2, d3] }
  | _ => none }
def weierstrassRanksRow : OpenClaim := { program := "ytdhfgihnoimoaaa", sum := "73eab8600cc7da2c7ec223315b420ab0d00f886823e0a5653519a24097609358", func := "sandpile/sandpilelaw41.WeierstrassRanks", spec := "weierstrassRanks", unfollowed := true, recurses := true, plainKeys := false, apart := false }
def WeierstrassRanksSaid : Prop := weierstrassRanksRow.holds Try.pinned (OpenSpec.ofChange weierstrassRanksSpec)

/-- ITS FALSE NEIGHBOUR: 'it returns false'. Refute it at one input. -/
def weierstrassRanksWrong : ChangeSpec := { name := "weierstrassRanks", fn := fun _ => fun
  | [d1, d2, d3] => { results := [.lit (.bool false)], args := [d1, d2, d3] }
  | _ => none }
def WeierstrassRanksWrongFalsely : Prop := weierstrassRanksRow.holds Try.pinned (OpenSpec.ofChange weierstrassRanksWrong)

/-- 'sandpilelaw41.WeierstrassGaps': WHATEVER THE INPUT: true; the input reads as it did. -/
def weierstrassGapsSpec : ChangeSpec := { name := "weierstrassGaps", fn := fun _ => fun
  | [d1, d2] => { results := [.lit (.bool true)], args := [d1, d2] }
  | _ => none }
def weierstrassGapsRow : OpenClaim := { program := "ytdhfgihnoimoaaa", sum := "73eab8600cc7da2c7ec223315b420ab0d00f886823e0a5653519a24097609358", func := "sandpile/sandpilelaw41.WeierstrassGaps", spec := "weierstrassGaps", unfollowed := true, recurses := true, plainKeys := false, apart := false }
def WeierstrassGapsSaid : Prop := weierstrassGapsRow.holds Try.pinned (OpenSpec.ofChange weierstrassGapsSpec)

/-- ITS FALSE NEIGHBOUR: 'it returns false'. Refute it at one input. -/
def weierstrassGapsWrong : ChangeSpec := { name := "weierstrassGaps", fn := fun _ => fun
  | [d1, d2] => { results := [.lit (.bool false)], args := [d1, d2] }
  | _ => none }
def WeierstrassGapsWrongFalsely : Prop := weierstrassGapsRow.holds Try.pinned (OpenSpec.ofChange weierstrassGapsWrong)

/-- 'sandpilelaw41.WeierstrassFinds': WHATEVER THE INPUT: true; the input reads as it did. -/
def weierstrassFindsSpec : ChangeSpec := { name := "weierstrassFinds", fn := fun _ => fun
  | [d] => { results := [.lit (.bool true)], args := [d] }
  | _ => none }
def weierstrassFindsRow : OpenClaim := { program := "ytdhfgihnoimoaaa", sum := "73eab8600cc7da2c7ec223315b420ab0d00f886823e0a5653519a24097609358", func := "sandpile/sandpilelaw41.WeierstrassFinds", spec := "weierstrassFinds", unfollowed := true, recurses := true, plainKeys := false, apart := false }
def WeierstrassFindsSaid : Prop := weierstrassFindsRow.holds Try.pinned (OpenSpec.ofChange weierstrassFindsSpec)

/-- ITS FALSE NEIGHBOUR: 'it returns false'. Refute it at one input. -/
def weierstrassFindsWrong : ChangeSpec := { name := "weierstrassFinds", fn := fun _ => fun
  | [d] => { results := [.lit (.bool false)], args := [d] }
  | _ => none }
def WeierstrassFindsWrongFalsely : Prop := weierstrassFindsRow.holds Try.pinned (OpenSpec.ofChange weierstrassFindsWrong)

/-- 'sandpilelaw41.WeierstrassGrows': WHATEVER THE INPUT: true; the input reads as it did. -/
def weierstrassGrowsSpec : ChangeSpec := { name := "weierstrassGrows", fn := fun _ => fun
  | [d1, d2] => { results := [.lit (.bool true)], args := [d1, d2] }
  | _ => none }
def weierstrassGrowsRow : OpenClaim := { program := "ytdhfgihnoimoaaa", sum := "73eab8600cc7da2c7ec223315b420ab0d00f886823e0a5653519a24097609358", func := "sandpile/sandpilelaw41.WeierstrassGrows", spec := "weierstrassGrows", unfollowed := true, recurses := true, plainKeys := false, apart := false }
def WeierstrassGrowsSaid : Prop := weierstrassGrowsRow.holds Try.pinned (OpenSpec.ofChange weierstrassGrowsSpec)

/-- ITS FALSE NEIGHBOUR: 'it returns false'. Refute it at one input. -/
def weierstrassGrowsWrong : ChangeSpec := { name := "weierstrassGrows", fn := fun _ => fun
  | [d1, d2] => { results := [.lit (.bool false)], args := [d1, d2] }
  | _ => none }
def WeierstrassGrowsWrongFalsely : Prop := weierstrassGrowsRow.holds Try.pinned (OpenSpec.ofChange weierstrassGrowsWrong)

/-- 'sandpilelaw41.WeierstrassRamifies': WHATEVER THE INPUT: true; the input reads as it did. -/
def weierstrassRamifiesSpec : ChangeSpec := { name := "weierstrassRamifies", fn := fun _ => fun
  | [d1, d2] => { results := [.lit (.bool true)], args := [d1, d2] }
  | _ => none }
def weierstrassRamifiesRow : OpenClaim := { program := "ytdhfgihnoimoaaa", sum := "73eab8600cc7da2c7ec223315b420ab0d00f886823e0a5653519a24097609358", func := "sandpile/sandpilelaw41.WeierstrassRamifies", spec := "weierstrassRamifies", unfollowed := true, recurses := true, plainKeys := false, apart := false }
def WeierstrassRamifiesSaid : Prop := weierstrassRamifiesRow.holds Try.pinned (OpenSpec.ofChange weierstrassRamifiesSpec)

/-- ITS FALSE NEIGHBOUR: 'it returns false'. Refute it at one input. -/
def weierstrassRamifiesWrong : ChangeSpec := { name := "weierstrassRamifies", fn := fun _ => fun
  | [d1, d2] => { results := [.lit (.bool false)], args := [d1, d2] }
  | _ => none }
def WeierstrassRamifiesWrongFalsely : Prop := weierstrassRamifiesRow.holds Try.pinned (OpenSpec.ofChange weierstrassRamifiesWrong)

/-- 'sandpilelaw41.WeierstrassCanonical': WHATEVER THE INPUT: true; the input reads as it did. -/
def weierstrassCanonicalSpec : ChangeSpec := { name := "weierstrassCanonical", fn := fun _ => fun
  | [d] => { results := [.lit (.bool true)], args := [d] }
  | _ => none }
def weierstrassCanonicalRow : OpenClaim := { program := "ytdhfgihnoimoaaa", sum := "73eab8600cc7da2c7ec223315b420ab0d00f886823e0a5653519a24097609358", func := "sandpile/sandpilelaw41.WeierstrassCanonical", spec := "weierstrassCanonical", unfollowed := true, recurses := true, plainKeys := false, apart := false }
def WeierstrassCanonicalSaid : Prop := weierstrassCanonicalRow.holds Try.pinned (OpenSpec.ofChange weierstrassCanonicalSpec)

/-- ITS FALSE NEIGHBOUR: 'it returns false'. Refute it at one input. -/
def weierstrassCanonicalWrong : ChangeSpec := { name := "weierstrassCanonical", fn := fun _ => fun
  | [d] => { results := [.lit (.bool false)], args := [d] }
  | _ => none }
def WeierstrassCanonicalWrongFalsely : Prop := weierstrassCanonicalRow.holds Try.pinned (OpenSpec.ofChange weierstrassCanonicalWrong)

/- THE SECOND FORM. 'bulk': how many values and letters a reading holds, each counted each time it is reached (what is shared counts as often as it is met; a slice's spare places count too). A statement '..UptoSaid' is the law's where the arguments, and the package variables that the reading takes, are together of bulk at most 1048576: NARROWER than '..Said'. Prove '..Said' where nothing that the law and all that it calls make is longer than what came in: it says more and counts as full. Else prove '..UptoSaid'. A law counts once. -/
mutual
def uptoBulk {H : Type} : DataW H → Nat
  | .lit (.string bytes) => bytes.length + 1
  | .lit _ => 1
  | .nil => 1
  | .ptr d => uptoBulk d + 1
  | .slice elems spare => uptoBulkAll elems + uptoBulkAll spare + 1
  | .agg parts => uptoBulkAll parts + 1
  | .iface _ d => uptoBulk d + 1
  | .map entries => uptoBulkEntries entries + 1
  | .held _ => 1
def uptoBulkAll {H : Type} : List (DataW H) → Nat
  | [] => 0
  | d :: r => uptoBulk d + uptoBulkAll r
def uptoBulkEntries {H : Type} : List (Lit × DataW H) → Nat
  | [] => 0
  | x :: r => uptoBulkEntry x + uptoBulkEntries r
def uptoBulkEntry {H : Type} : Lit × DataW H → Nat
  | (.string bytes, d) => bytes.length + uptoBulk d + 1
  | (_, d) => uptoBulk d + 1
 end
def uptoSmall : (H : Type) → List (DataW H) → Bool := fun _ ds => decide (uptoBulkAll ds ≤ 1048576)
def OpenSpec.upto (s : _root_.Go.ChangeSpec) : _root_.Go.OpenSpec := { _root_.Go.OpenSpec.ofChange s with cond := some uptoSmall }

/-- 'sandpilelaw41.WeierstrassRanks', WHERE WHAT IT READS IS OF BULK AT MOST 1048576: true; the input reads as it did. -/
def weierstrassRanksUptoRow : OpenClaim := { program := "ytdhfgihnoimoaaa", sum := "73eab8600cc7da2c7ec223315b420ab0d00f886823e0a5653519a24097609358", func := "sandpile/sandpilelaw41.WeierstrassRanks", spec := "weierstrassRanks", unfollowed := true, recurses := true, plainKeys := false, apart := false, narrowed := true }
def WeierstrassRanksUptoSaid : Prop := weierstrassRanksUptoRow.holds Try.pinned (OpenSpec.upto weierstrassRanksSpec)

/-- 'sandpilelaw41.WeierstrassGaps', WHERE WHAT IT READS IS OF BULK AT MOST 1048576: true; the input reads as it did. -/
def weierstrassGapsUptoRow : OpenClaim := { program := "ytdhfgihnoimoaaa", sum := "73eab8600cc7da2c7ec223315b420ab0d00f886823e0a5653519a24097609358", func := "sandpile/sandpilelaw41.WeierstrassGaps", spec := "weierstrassGaps", unfollowed := true, recurses := true, plainKeys := false, apart := false, narrowed := true }
def WeierstrassGapsUptoSaid : Prop := weierstrassGapsUptoRow.holds Try.pinned (OpenSpec.upto weierstrassGapsSpec)

/-- 'sandpilelaw41.WeierstrassFinds', WHERE WHAT IT READS IS OF BULK AT MOST 1048576: true; the input reads as it did. -/
def weierstrassFindsUptoRow : OpenClaim := { program := "ytdhfgihnoimoaaa", sum := "73eab8600cc7da2c7ec223315b420ab0d00f886823e0a5653519a24097609358", func := "sandpile/sandpilelaw41.WeierstrassFinds", spec := "weierstrassFinds", unfollowed := true, recurses := true, plainKeys := false, apart := false, narrowed := true }
def WeierstrassFindsUptoSaid : Prop := weierstrassFindsUptoRow.holds Try.pinned (OpenSpec.upto weierstrassFindsSpec)

/-- 'sandpilelaw41.WeierstrassGrows', WHERE WHAT IT READS IS OF BULK AT MOST 1048576: true; the input reads as it did. -/
def weierstrassGrowsUptoRow : OpenClaim := { program := "ytdhfgihnoimoaaa", sum := "73eab8600cc7da2c7ec223315b420ab0d00f886823e0a5653519a24097609358", func := "sandpile/sandpilelaw41.WeierstrassGrows", spec := "weierstrassGrows", unfollowed := true, recurses := true, plainKeys := false, apart := false, narrowed := true }
def WeierstrassGrowsUptoSaid : Prop := weierstrassGrowsUptoRow.holds Try.pinned (OpenSpec.upto weierstrassGrowsSpec)

/-- 'sandpilelaw41.WeierstrassRamifies', WHERE WHAT IT READS IS OF BULK AT MOST 1048576: true; the input reads as it did. -/
def weierstrassRamifiesUptoRow : OpenClaim := { program := "ytdhfgihnoimoaaa", sum := "73eab8600cc7da2c7ec223315b420ab0d00f886823e0a5653519a24097609358", func := "sandpile/sandpilelaw41.WeierstrassRamifies", spec := "weierstrassRamifies", unfollowed := true, recurses := true, plainKeys := false, apart := false, narrowed := true }
def WeierstrassRamifiesUptoSaid : Prop := weierstrassRamifiesUptoRow.holds Try.pinned (OpenSpec.upto weierstrassRamifiesSpec)

/-- 'sandpilelaw41.WeierstrassCanonical', WHERE WHAT IT READS IS OF BULK AT MOST 1048576: true; the input reads as it did. -/
def weierstrassCanonicalUptoRow : OpenClaim := { program := "ytdhfgihnoimoaaa", sum := "73eab8600cc7da2c7ec223315b420ab0d00f886823e0a5653519a24097609358", func := "sandpile/sandpilelaw41.WeierstrassCanonical", spec := "weierstrassCanonical", unfollowed := true, recurses := true, plainKeys := false, apart := false, narrowed := true }
def WeierstrassCanonicalUptoSaid : Prop := weierstrassCanonicalUptoRow.holds Try.pinned (OpenSpec.upto weierstrassCanonicalSpec)

end Rows
end Go.Proofs.Ytdhfgihnoimoaaa
