/- A part of the proof. -/
import Derived.Test.YtdbdfkohpjefjaaGreatPart01
set_option linter.all false
set_option maxHeartbeats 4000000
set_option maxRecDepth 100000
namespace Go.Proofs.YtdbdfkohpjefjaaGreat
open Go.Sp
theorem C4T:Tryz.prog.keyTypeAt 3 129=true:=by kernel_rfl
theorem C4U:Tryz.prog.tiled 3 129=true:=by kernel_rfl
theorem C0Y:(match Tryz.prog.underlying 129 with | some (.array _ _) | some (.struct _)=>true | _=>false)=true:=by kernel_rfl
noncomputable def C66:Field:=(Tryz.prog.fieldsOf 129)[0]!
noncomputable def C67:Field:=(Tryz.prog.fieldsOf 129)[1]!
set_option maxRecDepth 100000 in
theorem C4V:KeyLaw Tryz.prog 129 (.ints 2):=
 B3d (m:=3) (by decide) C4T C4U C0Y (C0I (f0:=C66) (f1:=C67) (it:=3) (by kernel_rfl) (by kernel_rfl) (by kernel_rfl) (by kernel_rfl) (by kernel_rfl) (by kernel_rfl) (by kernel_rfl) (by kernel_rfl) (by kernel_rfl) (by kernel_rfl) (by kernel_rfl) (of_decide_eq_true (by kernel_rfl:decide (0<Tryz.prog.types.size)=true)))
theorem A7A:KeyLaw Tryz.prog 3 .int:=B5T Tryz.underlying3
end Go.Proofs.YtdbdfkohpjefjaaGreat
