/- A part of the proof: contracts of functions of the program, or plain lemmas. -/
import Derived.Test.YtbdpkgckdkpepaaG7
import Derived.Test.YtbdpkgckdkpepaaLay
import Derived.Shelf.SlSortCmp.NoneTotal
set_option linter.all false
namespace Go.Proofs.Ytbdpkgckdkpepaa
open Go.Sp Go.RowKit
set_option linter.unusedSimpArgs false
set_option linter.unusedVariables false
set_option maxHeartbeats 4000000
set_option maxRecDepth 100000


theorem agg71 : ∀ w, (isAgg 71).run Try.prog w = .ok true w := fun w => by
  have h : tAgg Try.prog 71 = some true := by simp only [ty]
  simp [run_tAgg h]
theorem size71 : ∀ w, (Go.sizeOf 71).run Try.prog w = .ok 3 w := fun w => by
  have h : tSize Try.prog 71 = some 3 := by simp only [ty]
  exact run_tSize h w
theorem enter77 : ∀ args w, (callFunc 77 args).run Try.prog w = .ok (.enter 77 args) w := Go.Proofs.enters_of Try.func77 (by kernel_rfl) rfl
theorem eRow_flat (e : E) : flatRow (eRow e) = true := rfl
theorem SortE_ok (es : List E) (hl : es.length < 2 ^ 60) {H : List Blk} {id cap : Nat} (hid : H[id]? = some (.box (flatRows (eRows es)))) :
    ACallH Try.prog 77 H [.c (.ref id 3 0 es.length cap), .c (.fn 78 [])] (H.set id (.box (flatRows (eRows (sortE es))))) (.tup []) :=
  SortFunc_call laySortE eRow 3 agg71 size71 (fun _ => rfl) eRow_flat cfE swoE 78 closE_ok enter77 es (by omega) hid
theorem SortE_none : ACall Try.prog 77 [.t (.slice []), .t (.fn 78 [])] (.tup []) := by
  refine ⟨enter77, fun S w vs hl hv => ?_⟩
  match vs, hl with
  | [v0, v1], _ =>
  have h0 : TRel S w (.slice []) v0 := hv 0 _ v0 rfl rfl
  have key : ∀ a c, Calls Try.prog 77 #[.slice a 0 c, v1] w fun e w' => ∃ v, e = .returned v ∧ TVRel (fun b o => S b o ∨ w.heap.size ≤ b) w' (.tup []) v ∧ Below w.heap.size w w' ∧ w.drawn ≤ w'.drawn := fun a c => by
    refine (Go.Proofs.AnyF.slices_SortFunc_none laySortE a c v1 w).mono ?_
    rintro e w' ⟨rfl, rfl⟩
    exact ⟨_, rfl, ⟨#[], rfl, rfl, by simp⟩, Below.refl _ _, Nat.le_refl _⟩
  cases h0 with
  | nil a c => exact key a c
  | slice b off k c rows cell hn hk hc hr => exact key _ c
end Go.Proofs.Ytbdpkgckdkpepaa
