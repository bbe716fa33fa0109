/- A part of the proof: contracts of functions of the program, and plain lemmas. -/
import Derived.Test.YtfkegnhpihoncaaGreatPart17
import Derived.Test.YtfkegnhpihoncaaGreatPart11
import Derived.Test.YtfkegnhpihoncaaGreatLayerC
set_option linter.all false
namespace Go.Proofs.YtfkegnhpihoncaaGreat
open Go.Sp
set_option linter.unusedSimpArgs false
set_option linter.unusedVariables false
set_option maxHeartbeats 4000000
set_option maxRecDepth 100000
def movStep (F : Int → Int) (l : List E) (x : E) : List E := if 0 ≤ F x.a ∧ 0 ≤ F x.b then bagPut l (min (F x.a) (F x.b)) (max (F x.a) (F x.b)) x.m else l
def movL (F : Int → Int) (es : List E) : List E := es.foldl (movStep F) []
structure MovOk (k : Nat) (es : List E) : Prop where
 d : distinctE es
 len : es.length ≤ k
 r : ∀ e, e ∈ es → (0 ≤ e.a ∧ e.a < 12) ∧ (0 ≤ e.b ∧ e.b < 12)
noncomputable def indE (g : G) (l : List Int) : Int := if subG g l ≠ 0 then subG g l else if l = [] then 14 else 0
noncomputable def indG (g : G) (l : List Int) : G := if indE g l ≠ 0 then ⟨0, []⟩ else ⟨l.length, sortE (movL (idxI l) g.es)⟩
end Go.Proofs.YtfkegnhpihoncaaGreat
