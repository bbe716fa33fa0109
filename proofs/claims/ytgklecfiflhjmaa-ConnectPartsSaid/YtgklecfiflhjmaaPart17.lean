/- A part of the proof. -/
import Derived.Test.YtgklecfiflhjmaaPart16
import Derived.Test.YtgklecfiflhjmaaPart09
import Derived.Test.YtgklecfiflhjmaaPart10
import Derived.Test.YtgklecfiflhjmaaLayerC
set_option linter.all false
set_option maxHeartbeats 4000000
set_option maxRecDepth 100000
namespace Go.Proofs.Ytgklecfiflhjmaa
open Go.Sp
theorem enter69 : ∀ args w, (callFunc 88 args).run Try.prog w = .ok (.enter 88 args) w := Go.Proofs.enters_of Try.func88 (by kernel_rfl) rfl
theorem SortI_ok (l : List Int) (hl : l.length < 2 ^ 60) {H : List Blk} {id cap : Nat} (hid : H[id]? = some (.box (flatRows (iRows l)))) :
  ACallH Try.prog 88 H [.c (.ref id 1 0 l.length cap)] (H.set id (.box (flatRows (iRows (sortI l))))) (.tup []) := SortInts_call laySortI enter69 l (by omega) hid
end Go.Proofs.Ytgklecfiflhjmaa
