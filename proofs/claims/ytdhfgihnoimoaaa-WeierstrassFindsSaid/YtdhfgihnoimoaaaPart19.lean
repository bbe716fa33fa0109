/- A part of the proof. -/
import Derived.Test.YtdhfgihnoimoaaaPart18
import Derived.Test.YtdhfgihnoimoaaaPart15
import Derived.Test.YtdhfgihnoimoaaaPart08
import Derived.Test.YtdhfgihnoimoaaaPart06
import Derived.Test.YtdhfgihnoimoaaaPart09
import Derived.Test.YtdhfgihnoimoaaaPart14
set_option linter.all false
set_option maxHeartbeats 4000000
set_option maxRecDepth 100000
namespace Go.Proofs.Ytdhfgihnoimoaaa
open Go.Sp
theorem conn_parts {g : G} {n : Nat} (hc : checkG g = 0) (hn : g.n = n) : connB g = decide (ncls n (Conn (endsL g.es)) = 1) := by
 unfold connB
 rw [show g.n.toNat = n by omega, parts_ncls hc hn]
theorem iC_ref {B : List Int} {n : Nat} (h : B.length = n) {H : List Blk} {id : Nat} (hid : H[id]? = some (.box (iC B))) : borrow H (.ref id 1 0 n n) = some (.slice (iRows B)) := by
 have e : borrow H (.ref id 1 0 n n) = borrow0 H (.ref id 1 0 n n) := rfl
 have hf := refRows_flat (rows := iRows B) (k := 1) (cap := n) (fun r hr => iRows_k' hr) (fun r hr => by obtain ⟨b, _, rfl⟩ := List.mem_map.1 hr; rfl) (by rw [iRows_len]; omega)
 rw [flat_iRows, iRows_len, h] at hf
 unfold refRows at hf
 rw [e]
 simp only [borrow0, hid, Blk.cells, Option.bind_some]
 split at hf
 ·rename_i hc
  rw [if_pos hc]
  cases hm : (((iC B).drop 0).take (n * 1)).mapM toTree0 with
  | none => rw [hm] at hf; simp at hf
  | some ts =>
   rw [hm] at hf
   simp only [Option.bind_some] at hf
   split at hf
   ·simp at hf; simp [hf]
   ·simp at hf
 ·simp at hf
end Go.Proofs.Ytdhfgihnoimoaaa
