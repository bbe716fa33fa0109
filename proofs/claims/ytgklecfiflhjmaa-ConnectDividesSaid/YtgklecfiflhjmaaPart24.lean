/- A part of the proof. -/
import Derived.Test.YtgklecfiflhjmaaPart23
import Derived.Test.YtgklecfiflhjmaaPart20
import Derived.Test.YtgklecfiflhjmaaLayerC
import Derived.Test.YtgklecfiflhjmaaPart21
import Derived.Test.YtgklecfiflhjmaaPart22
import Derived.Test.YtgklecfiflhjmaaPart19
set_option linter.all false
set_option maxHeartbeats 4000000
set_option maxRecDepth 100000
namespace Go.Proofs.Ytgklecfiflhjmaa
open Go.Sp
structure Rib (r : R) : Prop where
 ok : ROk r
 pos : 0 < (endsL r.es).length
 few : (endsL r.es).length ≤ 50
 fac : (facesR r).length ≤ 12
section
variable {r : R}
end
structure FewF (g : G) : Prop where
 es : g.es.length ≤ 40
 sz : checkG g = 0 → g.n ≤ 6 ∧ (endsL g.es).length ≤ 9
theorem few_of {g : G} (h : smallB g 6 9 = true) : FewF g := by
 unfold smallB at h
 simp only [Bool.and_eq_true, Bool.or_eq_true, decide_eq_true_eq] at h
 exact ⟨h.1, fun hc => by rcases h.2 with h2 | h2; exact absurd hc h2; exact ⟨h2.1, by omega⟩⟩
theorem partsV_sm (F : List Nat) (n : Nat) (hn : n ≤ 12) : (partsV F n).length < 2 ^ 40 ∧ ∀ l, l ∈ partsV F n → l.length < 2 ^ 40 := by
 refine ⟨by rw [partsV_len]; have := rootsL_len F n; omega, fun l hl => ?_⟩
 unfold partsV at hl
 obtain ⟨r, _, rfl⟩ := List.mem_map.1 hl
 unfold partV
 rw [List.length_map]
 have := List.length_filter_le (fun u => decide (rootF F 12 u = r)) (List.range n)
 rw [List.length_range] at this; omega
theorem pairs_conn {g : G} (hc : checkG g = 0) {u w : Nat} : Conn (pairsE g.es) u w ↔ Conn (endsL g.es) u w :=
 ⟨fun h => h.mono fun p hp => (pairs_mem hc p).1 hp, fun h => h.mono fun p hp => (pairs_mem hc p).2 hp⟩
section
variable {r : R}
end
end Go.Proofs.Ytgklecfiflhjmaa
