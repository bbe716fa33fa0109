/- A part of the proof. -/
import Derived.Test.YtdhfgihnoimoaaaPart16
import Derived.Test.YtdhfgihnoimoaaaPart06
import Derived.Test.YtdhfgihnoimoaaaPart04
import Derived.Test.YtdhfgihnoimoaaaLayerD
import Derived.Test.YtdhfgihnoimoaaaPart02
import Derived.Test.YtdhfgihnoimoaaaPart13
import Derived.Test.YtdhfgihnoimoaaaPart14
import Derived.Test.YtdhfgihnoimoaaaLayerC
import Derived.Test.YtdhfgihnoimoaaaPart07
import Derived.Test.YtdhfgihnoimoaaaPart12
import Derived.Test.YtdhfgihnoimoaaaPart09
import Derived.Test.YtdhfgihnoimoaaaPart11
set_option linter.all false
set_option maxHeartbeats 4000000
set_option maxRecDepth 100000
namespace Go.Proofs.Ytdhfgihnoimoaaa
open Go.Sp
structure RSm (r : R) : Prop where
 es : r.es.length ≤ 40
 ar : r.ar.length < 2 ^ 20
 l : ∀ l, l ∈ r.ar → l.length < 2 ^ 20
set_option maxHeartbeats 1000000
@[simp] theorem chJ_ATf (L : List (Nat × Nat)) : (chJ (ATf L)).take 12 = chJ (ATf L) := chJ_take (by rw [ATf_len]; exact Nat.le_refl _)
theorem conn_eqv (N : Nat) (l : List (Int × Int)) : Eqv N (Conn l) := ⟨fun _ _ => .refl, fun _ _ _ _ h => h.symm, fun _ _ _ _ _ _ h1 h2 => h1.trans h2⟩
open Classical in
theorem parts_ncls {g : G} {n : Nat} (hc : checkG g = 0) (hn : g.n = n) : partsN g.es n n = ncls n (Conn (endsL g.es)) := by
 have h12 := (checkG_zero.1 hc).1
 have h1 := parts_roots hc hn n (Nat.le_refl _)
 rw [rootsN_filter] at h1
 have h2 : partsN g.es n n = ((List.range n).filter fun v => decide ((genS (endsL g.es)).1[v]? = some v)).length := by omega
 rw [h2]
 unfold ncls
 congr 1
 refine List.filter_congr fun v hv => ?_
 have hv' := List.mem_range.1 hv
 have hin : In12 (endsL g.es) := fun p hp => by have := ends_in hc hn p hp; omega
 rw [decide_eq_decide, isRoot_iff hin (by omega)]
 constructor
 ·intro H y hy hcn
  exact Nat.le_of_not_lt fun hlt => H ⟨y, hlt, hcn.symm⟩
 ·rintro H ⟨u, hu, hcn⟩
  have := H u (by omega) hcn.symm
  omega
structure Emb (E n : Nat) (L : List (Int × Int)) (s : Nat → Nat) (g : Nat → Nat) : Prop where
 len : L.length = E
 perm : PermN (2 * E) s
 lt : ∀ x, x < 2 * E → g x < n
 ends : ∀ k, k < E → L[k]? = some (((g (2 * k) : Nat) : Int), ((g (2 * k + 1) : Nat) : Int))
 keep : ∀ x, x < 2 * E → g (s x) = g x
section
variable {E n : Nat} {L : List (Int × Int)} {s g : Nat → Nat}
end
end Go.Proofs.Ytdhfgihnoimoaaa
namespace Go.Proofs.Ytdhfgihnoimoaaa
open Go.Sp
section
variable {r : R}
end
set_option maxHeartbeats 1000000
structure NG (g : G) (n : Nat) (L : List (Nat × Nat)) : Prop where
 hn : g.n = n
 h1 : 1 ≤ n
 h12 : n ≤ 12
 ends : endsL g.es = LI L
 lt : ∀ p, p ∈ L → p.1 < n ∧ p.2 < n
 len : L.length ≤ 2000
end Go.Proofs.Ytdhfgihnoimoaaa
