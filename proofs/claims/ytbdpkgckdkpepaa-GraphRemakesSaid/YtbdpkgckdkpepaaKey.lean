/- A part of the proof: contracts of functions of the program, or plain lemmas. -/
import Derived.Test.YtbdpkgckdkpepaaFacts
import Derived.Test.YtbdpkgckdkpepaaLayerC
set_option linter.all false
namespace Go.Proofs.Ytbdpkgckdkpepaa
open Go.Sp
theorem kt76 : Try.prog.keyTypeAt 3 76 = true := by kernel_rfl
theorem tl76 : Try.prog.tiled 3 76 = true := by kernel_rfl
theorem wide76 : (match Try.prog.underlying 76 with | some (.array _ _) | some (.struct _) => true | _ => false) = true := by kernel_rfl
noncomputable def fld0 : Field := (Try.prog.fieldsOf 76)[0]!
noncomputable def fld1 : Field := (Try.prog.fieldsOf 76)[1]!
set_option maxRecDepth 100000 in
theorem kl76 : KeyLaw Try.prog 76 (.ints 2) :=
  keyLaw_ints (m := 3) (by decide) kt76 tl76 wide76 (intsKey2 (f0 := fld0) (f1 := fld1) (it := 3) (by kernel_rfl) (by kernel_rfl) (by kernel_rfl) (by kernel_rfl) (by kernel_rfl) (by kernel_rfl) (by kernel_rfl) (by kernel_rfl) (by kernel_rfl) (by kernel_rfl) (by kernel_rfl) (of_decide_eq_true (by kernel_rfl : decide (0 < Try.prog.types.size) = true)))
end Go.Proofs.Ytbdpkgckdkpepaa
