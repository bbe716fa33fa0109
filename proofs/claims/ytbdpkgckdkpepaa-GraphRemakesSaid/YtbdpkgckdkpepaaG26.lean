/- A part of the proof: contracts of functions of the program, or plain lemmas. -/
import Derived.Test.YtbdpkgckdkpepaaG10
import Derived.Test.YtbdpkgckdkpepaaSpOpen
import Derived.Test.YtbdpkgckdkpepaaRows
import Derived.WalkKit
import Derived.ProofKit
import Derived.OpenShut
import Derived.ShutString
import Derived.ChangeOld
import Derived.Below
import Derived.Lib.SmallJoins
set_option linter.all false
namespace Go.Proofs.Ytbdpkgckdkpepaa
open Go.ChangeShapes Go.WideShapes Go.ChangeAt Go.RowKit Go.Joins Go.Sp
set_option linter.unusedVariables false
set_option maxRecDepth 100000
theorem own : ownKnob Try.prog.godebug = none := by kernel_rfl
theorem laidOut : laidOutB Try.prog = true := by kernel_rfl
theorem edgeCells : IntCells Try.prog 71 3 :=
  intCells_struct Try.underlying71 (by kernel_rfl) (fun i f hf => by
    match i, hf with
    | 0, hf => obtain rfl := Option.some.inj hf; exact ⟨Try.underlying3, by kernel_rfl, rfl⟩
    | 1, hf => obtain rfl := Option.some.inj hf; exact ⟨Try.underlying3, by kernel_rfl, rfl⟩
    | 2, hf => obtain rfl := Option.some.inj hf; exact ⟨Try.underlying3, by kernel_rfl, rfl⟩
    | n + 3, hf => simp at hf)
def toE (r : List Int) : E := ⟨r.getD 0 0, r.getD 1 0, r.getD 2 0⟩
theorem eRows_of {rows : List (List Int)} (h : ∀ r, r ∈ rows → r.length = 3) : rows.map tInts = eRows (rows.map toE) := by
  simp only [eRows, List.map_map]
  refine List.map_congr_left fun r hr => ?_
  match r, h r hr with
  | [a, b, c], _ => rfl
theorem open_graph {H : Type} {enc : TypeId × Value → H} {w : World} {r : Reach} {b0 base : Nat} {spare : Nat → Bool} {held : Bool} {v : Value} {d : DataW H} {p : List MemPlace}
    (hv : Value.okWide Try.prog w r b0 24 v) (h : DataW.Trod enc Try.prog w base spare held 24 v d p) : ∃ g : G, TVRel (fun _ _ => True) w (tG g) v := by
  obtain ⟨v0, v1, y0, y1, n, rfl, -, -, h0, h1⟩ := open_agg2 Try.underlying24 (by kernel_rfl) (by kernel_rfl) hv h
  obtain ⟨m, hm, -, -⟩ := DataW.trod_int Try.underlying3 h0
  obtain rfl : v0 = .int .i64 m := by simpa using hm
  obtain ⟨rows, hr, -, ht⟩ := open_rows Try.underlying22 edgeCells (by decide) h1
  rw [eRows_of fun r hr' => (hr r hr').1] at ht
  refine ⟨⟨m, rows.map toE⟩, #[.int .i64 m, v1], rfl, rfl, fun j c u hc hu => ?_⟩
  match j, hc, hu with
  | 0, hc, hu => simp at hc hu; subst hc hu; exact .int _ _
  | 1, hc, hu => simp at hc hu; subst hc hu; exact ht
  | n + 2, hc, hu => simp at hc
end Go.Proofs.Ytbdpkgckdkpepaa
