/-
  No cell of these rows narrows 'for every input' (looked for: loops, veiled, ifaces, maps, wideKeys, modest, calm, conditions, laid).
  DERIVED. THE GIVEN ROWS OF THIS SEAT. 8 by the template 'for every input the law returns true; each argument reads behind the call as it read before'; 0 by the template 'total and deterministic' (their statements: YtfkegnhpihoncaaGreatTotals.lean).
  GIVEN WITH THE SEED: the statements are not yours to turn. If you find one false, say at which input.
  Laid BY PROGRAM, IN A SANDBOX (cutbox-rows.mjs): the forced cells as the released guide's own fill.sh prints them over the translation dca1cf53a4f2c558… (all of the seat's roots in one cut). By AI agents, Wed Nov 11 2026. No macro, syntax, notation, axiom, sorry.
-/
import Derived.Test.YtfkegnhpihoncaaGreatChecked
import GoSem.Claim
import GoSem.ClaimJoined
import GoSem.ClaimMapViews
import Derived.JoinedTies
import Derived.KernelRfl
namespace Go.Proofs.YtfkegnhpihoncaaGreat
/- THE CELL 'sum', in the pinned program and in every row, IS THE sha256 OF THE DUMP (.gsa) THAT YtfkegnhpihoncaaGreatProg.lean LOADS. Nothing in Lean hashes anything: it is a label: what it is worth is what the hold of that sum in a sandbox is worth. -/
noncomputable def Tryz.pinned : Pinned := { name := "ytfkegnhpihoncaagreat", sum := "dca1cf53a4f2c558fc59d519173561ad714096979461d371c4e63aa49cf84b6f", checked := Tryz.checked }
namespace Rows
def none {H : Type} : Left H := { results := [], args := [] }

/-- 'sandpilelaw44.RibbonFaces': WHATEVER THE INPUT: true; the input reads as it did. -/
def ribbonFacesSpec : ChangeSpec := { name := "ribbonFaces", fn := fun _ => fun
  | [d] => { results := [.lit (.bool true)], args := [d] }
  | _ => none }
def ribbonFacesRow : OpenClaim := { program := "ytfkegnhpihoncaagreat", sum := "dca1cf53a4f2c558fc59d519173561ad714096979461d371c4e63aa49cf84b6f", func := "sandpile/sandpilelaw44.RibbonFaces", spec := "ribbonFaces", unfollowed := true, recurses := true, plainKeys := false, apart := false }
def RibbonFacesSaid : Prop := ribbonFacesRow.holds Tryz.pinned (OpenSpec.ofChange ribbonFacesSpec)

/-- ITS FALSE NEIGHBOUR: 'it returns false'. Refute it at one input. -/
def ribbonFacesWrong : ChangeSpec := { name := "ribbonFaces", fn := fun _ => fun
  | [d] => { results := [.lit (.bool false)], args := [d] }
  | _ => none }
def RibbonFacesWrongFalsely : Prop := ribbonFacesRow.holds Tryz.pinned (OpenSpec.ofChange ribbonFacesWrong)

/-- 'sandpilelaw44.RibbonEuler': WHATEVER THE INPUT: true; the input reads as it did. -/
def ribbonEulerSpec : ChangeSpec := { name := "ribbonEuler", fn := fun _ => fun
  | [d] => { results := [.lit (.bool true)], args := [d] }
  | _ => none }
def ribbonEulerRow : OpenClaim := { program := "ytfkegnhpihoncaagreat", sum := "dca1cf53a4f2c558fc59d519173561ad714096979461d371c4e63aa49cf84b6f", func := "sandpile/sandpilelaw44.RibbonEuler", spec := "ribbonEuler", unfollowed := true, recurses := true, plainKeys := false, apart := false }
def RibbonEulerSaid : Prop := ribbonEulerRow.holds Tryz.pinned (OpenSpec.ofChange ribbonEulerSpec)

/-- ITS FALSE NEIGHBOUR: 'it returns false'. Refute it at one input. -/
def ribbonEulerWrong : ChangeSpec := { name := "ribbonEuler", fn := fun _ => fun
  | [d] => { results := [.lit (.bool false)], args := [d] }
  | _ => none }
def RibbonEulerWrongFalsely : Prop := ribbonEulerRow.holds Tryz.pinned (OpenSpec.ofChange ribbonEulerWrong)

/-- 'sandpilelaw44.RibbonTwice': WHATEVER THE INPUT: true; the input reads as it did. -/
def ribbonTwiceSpec : ChangeSpec := { name := "ribbonTwice", fn := fun _ => fun
  | [d] => { results := [.lit (.bool true)], args := [d] }
  | _ => none }
def ribbonTwiceRow : OpenClaim := { program := "ytfkegnhpihoncaagreat", sum := "dca1cf53a4f2c558fc59d519173561ad714096979461d371c4e63aa49cf84b6f", func := "sandpile/sandpilelaw44.RibbonTwice", spec := "ribbonTwice", unfollowed := true, recurses := true, plainKeys := false, apart := false }
def RibbonTwiceSaid : Prop := ribbonTwiceRow.holds Tryz.pinned (OpenSpec.ofChange ribbonTwiceSpec)

/-- ITS FALSE NEIGHBOUR: 'it returns false'. Refute it at one input. -/
def ribbonTwiceWrong : ChangeSpec := { name := "ribbonTwice", fn := fun _ => fun
  | [d] => { results := [.lit (.bool false)], args := [d] }
  | _ => none }
def RibbonTwiceWrongFalsely : Prop := ribbonTwiceRow.holds Tryz.pinned (OpenSpec.ofChange ribbonTwiceWrong)

/-- 'sandpilelaw44.RibbonChecks': WHATEVER THE INPUT: true; the input reads as it did. -/
def ribbonChecksSpec : ChangeSpec := { name := "ribbonChecks", fn := fun _ => fun
  | [d] => { results := [.lit (.bool true)], args := [d] }
  | _ => none }
def ribbonChecksRow : OpenClaim := { program := "ytfkegnhpihoncaagreat", sum := "dca1cf53a4f2c558fc59d519173561ad714096979461d371c4e63aa49cf84b6f", func := "sandpile/sandpilelaw44.RibbonChecks", spec := "ribbonChecks", unfollowed := true, recurses := true, plainKeys := false, apart := false }
def RibbonChecksSaid : Prop := ribbonChecksRow.holds Tryz.pinned (OpenSpec.ofChange ribbonChecksSpec)

/-- ITS FALSE NEIGHBOUR: 'it returns false'. Refute it at one input. -/
def ribbonChecksWrong : ChangeSpec := { name := "ribbonChecks", fn := fun _ => fun
  | [d] => { results := [.lit (.bool false)], args := [d] }
  | _ => none }
def RibbonChecksWrongFalsely : Prop := ribbonChecksRow.holds Tryz.pinned (OpenSpec.ofChange ribbonChecksWrong)

/-- 'sandpilelaw44.RibbonFollows': WHATEVER THE INPUT: true; the input reads as it did. -/
def ribbonFollowsSpec : ChangeSpec := { name := "ribbonFollows", fn := fun _ => fun
  | [d1, d2, d3] => { results := [.lit (.bool true)], args := [d1, d2, d3] }
  | _ => none }
def ribbonFollowsRow : OpenClaim := { program := "ytfkegnhpihoncaagreat", sum := "dca1cf53a4f2c558fc59d519173561ad714096979461d371c4e63aa49cf84b6f", func := "sandpile/sandpilelaw44.RibbonFollows", spec := "ribbonFollows", unfollowed := true, recurses := true, plainKeys := false, apart := false }
def RibbonFollowsSaid : Prop := ribbonFollowsRow.holds Tryz.pinned (OpenSpec.ofChange ribbonFollowsSpec)

/-- ITS FALSE NEIGHBOUR: 'it returns false'. Refute it at one input. -/
def ribbonFollowsWrong : ChangeSpec := { name := "ribbonFollows", fn := fun _ => fun
  | [d1, d2, d3] => { results := [.lit (.bool false)], args := [d1, d2, d3] }
  | _ => none }
def RibbonFollowsWrongFalsely : Prop := ribbonFollowsRow.holds Tryz.pinned (OpenSpec.ofChange ribbonFollowsWrong)

/-- 'sandpilelaw44.RibbonMirrors': WHATEVER THE INPUT: true; the input reads as it did. -/
def ribbonMirrorsSpec : ChangeSpec := { name := "ribbonMirrors", fn := fun _ => fun
  | [d] => { results := [.lit (.bool true)], args := [d] }
  | _ => none }
def ribbonMirrorsRow : OpenClaim := { program := "ytfkegnhpihoncaagreat", sum := "dca1cf53a4f2c558fc59d519173561ad714096979461d371c4e63aa49cf84b6f", func := "sandpile/sandpilelaw44.RibbonMirrors", spec := "ribbonMirrors", unfollowed := true, recurses := true, plainKeys := false, apart := false }
def RibbonMirrorsSaid : Prop := ribbonMirrorsRow.holds Tryz.pinned (OpenSpec.ofChange ribbonMirrorsSpec)

/-- ITS FALSE NEIGHBOUR: 'it returns false'. Refute it at one input. -/
def ribbonMirrorsWrong : ChangeSpec := { name := "ribbonMirrors", fn := fun _ => fun
  | [d] => { results := [.lit (.bool false)], args := [d] }
  | _ => none }
def RibbonMirrorsWrongFalsely : Prop := ribbonMirrorsRow.holds Tryz.pinned (OpenSpec.ofChange ribbonMirrorsWrong)

/-- 'sandpilelaw44.RibbonDuals': WHATEVER THE INPUT: true; the input reads as it did. -/
def ribbonDualsSpec : ChangeSpec := { name := "ribbonDuals", fn := fun _ => fun
  | [d1, d2] => { results := [.lit (.bool true)], args := [d1, d2] }
  | _ => none }
def ribbonDualsRow : OpenClaim := { program := "ytfkegnhpihoncaagreat", sum := "dca1cf53a4f2c558fc59d519173561ad714096979461d371c4e63aa49cf84b6f", func := "sandpile/sandpilelaw44.RibbonDuals", spec := "ribbonDuals", unfollowed := true, recurses := true, plainKeys := false, apart := false }
def RibbonDualsSaid : Prop := ribbonDualsRow.holds Tryz.pinned (OpenSpec.ofChange ribbonDualsSpec)

/-- ITS FALSE NEIGHBOUR: 'it returns false'. Refute it at one input. -/
def ribbonDualsWrong : ChangeSpec := { name := "ribbonDuals", fn := fun _ => fun
  | [d1, d2] => { results := [.lit (.bool false)], args := [d1, d2] }
  | _ => none }
def RibbonDualsWrongFalsely : Prop := ribbonDualsRow.holds Tryz.pinned (OpenSpec.ofChange ribbonDualsWrong)

/-- 'sandpilelaw44.RibbonTrees': WHATEVER THE INPUT: true; the input reads as it did. -/
def ribbonTreesSpec : ChangeSpec := { name := "ribbonTrees", fn := fun _ => fun
  | [d1, d2] => { results := [.lit (.bool true)], args := [d1, d2] }
  | _ => none }
def ribbonTreesRow : OpenClaim := { program := "ytfkegnhpihoncaagreat", sum := "dca1cf53a4f2c558fc59d519173561ad714096979461d371c4e63aa49cf84b6f", func := "sandpile/sandpilelaw44.RibbonTrees", spec := "ribbonTrees", unfollowed := true, recurses := true, plainKeys := false, apart := false }
def RibbonTreesSaid : Prop := ribbonTreesRow.holds Tryz.pinned (OpenSpec.ofChange ribbonTreesSpec)

/-- ITS FALSE NEIGHBOUR: 'it returns false'. Refute it at one input. -/
def ribbonTreesWrong : ChangeSpec := { name := "ribbonTrees", fn := fun _ => fun
  | [d1, d2] => { results := [.lit (.bool false)], args := [d1, d2] }
  | _ => none }
def RibbonTreesWrongFalsely : Prop := ribbonTreesRow.holds Tryz.pinned (OpenSpec.ofChange ribbonTreesWrong)

/- THE SECOND FORM. 'bulk': how many values and letters a reading holds, each counted each time it is reached (what is shared counts as often as it is met; a slice's spare places count too). A statement '..UptoSaid' is the law's where the arguments, and the package variables that the reading takes, are together of bulk at most 1048576: NARROWER than '..Said'. Prove '..Said' where nothing that the law and all that it calls make is longer than what came in: it says more and counts as full. Else prove '..UptoSaid'. A law counts once. -/
mutual
def uptoBulk {H : Type} : DataW H → Nat
  | .lit (.string bytes) => bytes.length + 1
  | .lit _ => 1
  | .nil => 1
  | .ptr d => uptoBulk d + 1
  | .slice elems spare => uptoBulkAll elems + uptoBulkAll spare + 1
  | .agg parts => uptoBulkAll parts + 1
  | .iface _ d => uptoBulk d + 1
  | .map entries => uptoBulkEntries entries + 1
  | .held _ => 1
def uptoBulkAll {H : Type} : List (DataW H) → Nat
  | [] => 0
  | d :: r => uptoBulk d + uptoBulkAll r
def uptoBulkEntries {H : Type} : List (Lit × DataW H) → Nat
  | [] => 0
  | x :: r => uptoBulkEntry x + uptoBulkEntries r
def uptoBulkEntry {H : Type} : Lit × DataW H → Nat
  | (.string bytes, d) => bytes.length + uptoBulk d + 1
  | (_, d) => uptoBulk d + 1
 end
def uptoSmall : (H : Type) → List (DataW H) → Bool := fun _ ds => decide (uptoBulkAll ds ≤ 1048576)
def OpenSpec.upto (s : _root_.Go.ChangeSpec) : _root_.Go.OpenSpec := { _root_.Go.OpenSpec.ofChange s with cond := some uptoSmall }

/-- 'sandpilelaw44.RibbonFaces', WHERE WHAT IT READS IS OF BULK AT MOST 1048576: true; the input reads as it did. -/
def ribbonFacesUptoRow : OpenClaim := { program := "ytfkegnhpihoncaagreat", sum := "dca1cf53a4f2c558fc59d519173561ad714096979461d371c4e63aa49cf84b6f", func := "sandpile/sandpilelaw44.RibbonFaces", spec := "ribbonFaces", unfollowed := true, recurses := true, plainKeys := false, apart := false, narrowed := true }
def RibbonFacesUptoSaid : Prop := ribbonFacesUptoRow.holds Tryz.pinned (OpenSpec.upto ribbonFacesSpec)

/-- 'sandpilelaw44.RibbonEuler', WHERE WHAT IT READS IS OF BULK AT MOST 1048576: true; the input reads as it did. -/
def ribbonEulerUptoRow : OpenClaim := { program := "ytfkegnhpihoncaagreat", sum := "dca1cf53a4f2c558fc59d519173561ad714096979461d371c4e63aa49cf84b6f", func := "sandpile/sandpilelaw44.RibbonEuler", spec := "ribbonEuler", unfollowed := true, recurses := true, plainKeys := false, apart := false, narrowed := true }
def RibbonEulerUptoSaid : Prop := ribbonEulerUptoRow.holds Tryz.pinned (OpenSpec.upto ribbonEulerSpec)

/-- 'sandpilelaw44.RibbonTwice', WHERE WHAT IT READS IS OF BULK AT MOST 1048576: true; the input reads as it did. -/
def ribbonTwiceUptoRow : OpenClaim := { program := "ytfkegnhpihoncaagreat", sum := "dca1cf53a4f2c558fc59d519173561ad714096979461d371c4e63aa49cf84b6f", func := "sandpile/sandpilelaw44.RibbonTwice", spec := "ribbonTwice", unfollowed := true, recurses := true, plainKeys := false, apart := false, narrowed := true }
def RibbonTwiceUptoSaid : Prop := ribbonTwiceUptoRow.holds Tryz.pinned (OpenSpec.upto ribbonTwiceSpec)

/-- 'sandpilelaw44.RibbonChecks', WHERE WHAT IT READS IS OF BULK AT MOST 1048576: true; the input reads as it did. -/
def ribbonChecksUptoRow : OpenClaim := { program := "ytfkegnhpihoncaagreat", sum := "dca1cf53a4f2c558fc59d519173561ad714096979461d371c4e63aa49cf84b6f", func := "sandpile/sandpilelaw44.RibbonChecks", spec := "ribbonChecks", unfollowed := true, recurses := true, plainKeys := false, apart := false, narrowed := true }
def RibbonChecksUptoSaid : Prop := ribbonChecksUptoRow.holds Tryz.pinned (OpenSpec.upto ribbonChecksSpec)

/-- 'sandpilelaw44.RibbonFollows', WHERE WHAT IT READS IS OF BULK AT MOST 1048576: true; the input reads as it did. -/
def ribbonFollowsUptoRow : OpenClaim := { program := "ytfkegnhpihoncaagreat", sum := "dca1cf53a4f2c558fc59d519173561ad714096979461d371c4e63aa49cf84b6f", func := "sandpile/sandpilelaw44.RibbonFollows", spec := "ribbonFollows", unfollowed := true, recurses := true, plainKeys := false, apart := false, narrowed := true }
def RibbonFollowsUptoSaid : Prop := ribbonFollowsUptoRow.holds Tryz.pinned (OpenSpec.upto ribbonFollowsSpec)

/-- 'sandpilelaw44.RibbonMirrors', WHERE WHAT IT READS IS OF BULK AT MOST 1048576: true; the input reads as it did. -/
def ribbonMirrorsUptoRow : OpenClaim := { program := "ytfkegnhpihoncaagreat", sum := "dca1cf53a4f2c558fc59d519173561ad714096979461d371c4e63aa49cf84b6f", func := "sandpile/sandpilelaw44.RibbonMirrors", spec := "ribbonMirrors", unfollowed := true, recurses := true, plainKeys := false, apart := false, narrowed := true }
def RibbonMirrorsUptoSaid : Prop := ribbonMirrorsUptoRow.holds Tryz.pinned (OpenSpec.upto ribbonMirrorsSpec)

/-- 'sandpilelaw44.RibbonDuals', WHERE WHAT IT READS IS OF BULK AT MOST 1048576: true; the input reads as it did. -/
def ribbonDualsUptoRow : OpenClaim := { program := "ytfkegnhpihoncaagreat", sum := "dca1cf53a4f2c558fc59d519173561ad714096979461d371c4e63aa49cf84b6f", func := "sandpile/sandpilelaw44.RibbonDuals", spec := "ribbonDuals", unfollowed := true, recurses := true, plainKeys := false, apart := false, narrowed := true }
def RibbonDualsUptoSaid : Prop := ribbonDualsUptoRow.holds Tryz.pinned (OpenSpec.upto ribbonDualsSpec)

/-- 'sandpilelaw44.RibbonTrees', WHERE WHAT IT READS IS OF BULK AT MOST 1048576: true; the input reads as it did. -/
def ribbonTreesUptoRow : OpenClaim := { program := "ytfkegnhpihoncaagreat", sum := "dca1cf53a4f2c558fc59d519173561ad714096979461d371c4e63aa49cf84b6f", func := "sandpile/sandpilelaw44.RibbonTrees", spec := "ribbonTrees", unfollowed := true, recurses := true, plainKeys := false, apart := false, narrowed := true }
def RibbonTreesUptoSaid : Prop := ribbonTreesUptoRow.holds Tryz.pinned (OpenSpec.upto ribbonTreesSpec)

end Rows
end Go.Proofs.YtfkegnhpihoncaaGreat
