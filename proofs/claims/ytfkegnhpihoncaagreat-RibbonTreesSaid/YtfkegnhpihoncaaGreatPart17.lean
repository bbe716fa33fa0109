/- A part of the proof. -/
import Derived.Test.YtfkegnhpihoncaaGreatPart16
import Derived.Test.YtfkegnhpihoncaaGreatPart09
import Derived.Test.YtfkegnhpihoncaaGreatPart10
import Derived.Test.YtfkegnhpihoncaaGreatLayerC
set_option linter.all false
set_option maxHeartbeats 4000000
set_option maxRecDepth 100000
namespace Go.Proofs.YtfkegnhpihoncaaGreat
open Go.Sp
theorem iRows_ref {l : List Int} {n cap : Nat} (hn : l.length = n) (hc : n ≤ cap) : refRows (flatRows (iRows l)) 1 0 n cap = some (iRows l) := by
 have := refRows_flat (rows := iRows l) (k := 1) (cap := cap) (fun r hr => iRows_k' hr) (fun r hr => intRow_flat hr) (by rw [iRows_len]; omega)
 rwa [iRows_len, hn] at this
theorem enter69 : ∀ args w, (callFunc 37 args).run Tryz.prog w = .ok (.enter 37 args) w := Go.Proofs.enters_of Tryz.func37 (by kernel_rfl) rfl
theorem SortI_none : ACall Tryz.prog 37 [.t (.slice [])] (.tup []) := SortInts_none laySortI enter69
theorem SortI_ok (l : List Int) (hl : l.length < 2 ^ 60) {H : List Blk} {id cap : Nat} (hid : H[id]? = some (.box (flatRows (iRows l)))) :
  ACallH Tryz.prog 37 H [.c (.ref id 1 0 l.length cap)] (H.set id (.box (flatRows (iRows (sortI l))))) (.tup []) := SortInts_call laySortI enter69 l (by omega) hid
end Go.Proofs.YtfkegnhpihoncaaGreat
