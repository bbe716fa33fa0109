/- A part of the proof. -/
import Derived.Test.YtdhfgihnoimoaaaPart38
import Derived.Test.YtdhfgihnoimoaaaLayerC
set_option linter.all false
set_option maxHeartbeats 4000000
set_option maxRecDepth 100000
namespace Go.Proofs.Ytdhfgihnoimoaaa
open Go.Sp
theorem Ranks_law (g : G) (v N : Int) : ACall Try.prog 3 [tG g, tint v, tint N] (tbool true) := by
 have hA := awake41_ok
 have hF := Few41_ok g
 cases hs : smallB g 5 7 with
 | false =>
  rw [hs] at hF
  obtain ⟨n, es⟩ := g
  refine ACall.of_body Try.func3 rfl (by kernel_rfl) ?_
  simp only [entry, Try.ntmps3, tG, tint]
  refine zU ?_
  refine zR trivial (zc hF (zc hA trivial)) trivial ?_
  simp [Rets, aret, Blk.cells, ty, Try.results3, ares, toT1, toT, borrow, borrow0, capCell, toTree0, tbool]
 | true =>
  rw [hs] at hF
  by_cases hN : N > 5 ∧ N ≤ 12
  ·have h1 := hN.1
   have h2 := hN.2
   clear hs
   obtain ⟨n, es⟩ := g
   refine ACall.of_body Try.func3 rfl (by kernel_rfl) ?_
   simp only [entry, Try.ntmps3, tG, tint]
   refine zU ?_
   refine zR (zc @h1 (zc @h2 trivial)) (zc hF (zc hA trivial)) trivial ?_
   simp [Rets, aret, Blk.cells, ty, Try.results3, ares, toT1, toT, borrow, borrow0, capCell, toTree0, tbool]
  ·obtain ⟨L, e, hL, c1, c2⟩ := ranks_pair g v N hs (by omega)
   have hE := Equal_ok L L hL hL
   rw [decide_eq_true rfl] at hE
   clear hs
   obtain ⟨n, es⟩ := g
   by_cases h1 : N > 5
   ·have h2 : ¬ N ≤ 12 := fun h => hN ⟨h1, h⟩
    refine ACall.of_body Try.func3 rfl (by kernel_rfl) ?_
    simp only [entry, Try.ntmps3, tG, tint]
    refine zU ?_
    refine zR (zc @h1 (zc @h2 trivial)) (zc hF (zc c1 (zc c2 (zc hA (zc hE trivial))))) trivial ?_
    simp [Rets, aret, Blk.cells, ty, Try.results3, ares, toT1, toT, borrow, borrow0, capCell, toTree0, tbool]
   ·
    refine ACall.of_body Try.func3 rfl (by kernel_rfl) ?_
    simp only [entry, Try.ntmps3, tG, tint]
    refine zU ?_
    refine zR (zc @h1 trivial) (zc hF (zc c1 (zc c2 (zc hA (zc hE trivial))))) trivial ?_
    simp [Rets, aret, Blk.cells, ty, Try.results3, ares, toT1, toT, borrow, borrow0, capCell, toTree0, tbool]
theorem Gaps_law (g : G) (v : Int) : ACall Try.prog 4 [tG g, tint v] (tbool true) := by
 have hA := awake41_ok
 have hF := low_ok g
 cases hs : low41B g with
 | false =>
  rw [hs] at hF
  clear hs
  obtain ⟨n, es⟩ := g
  refine ACall.of_body Try.func4 rfl (by kernel_rfl) ?_
  simp only [entry, Try.ntmps4, tG, tint]
  refine zU ?_
  refine zR trivial (zc hF (zc hA trivial)) trivial ?_
  simp [Rets, aret, Blk.cells, ty, Try.results4, ares, toT1, toT, borrow, borrow0, capCell, toTree0, tbool]
 | true =>
  rw [hs] at hF
  obtain ⟨L, e, w, f, hL, c1, c2, c3, c4⟩ := gaps_pair g v (low_small hs)
  have hE := Equal_ok L L hL hL
  rw [decide_eq_true rfl] at hE
  clear hs
  obtain ⟨n, es⟩ := g
  refine ACall.of_body Try.func4 rfl (by kernel_rfl) ?_
  simp only [entry, Try.ntmps4, tG, tint]
  refine zU ?_
  refine zR trivial (zc hF (zc c1 (zc c2 (zc c3 (zc c4 (zc hA (zc hE trivial))))))) trivial ?_
  simp [Rets, aret, Blk.cells, ty, Try.results4, ares, toT1, toT, borrow, borrow0, capCell, toTree0, tbool]
theorem Finds_law (g : G) : ACall Try.prog 5 [tG g] (tbool true) := by
 have hA := awake41_ok
 have hF := low_ok g
 cases hs : low41B g with
 | false =>
  rw [hs] at hF
  clear hs
  obtain ⟨n, es⟩ := g
  refine ACall.of_body Try.func5 rfl (by kernel_rfl) ?_
  simp only [entry, Try.ntmps5, tG]
  refine zU ?_
  refine zR trivial (zc hF (zc hA trivial)) trivial ?_
  simp [Rets, aret, Blk.cells, ty, Try.results5, ares, toT1, toT, borrow, borrow0, capCell, toTree0, tbool]
 | true =>
  rw [hs] at hF
  obtain ⟨L, e, hL, c1, c2⟩ := verts_pair g hs
  have hE := Equal_ok L L hL hL
  rw [decide_eq_true rfl] at hE
  clear hs
  obtain ⟨n, es⟩ := g
  refine ACall.of_body Try.func5 rfl (by kernel_rfl) ?_
  simp only [entry, Try.ntmps5, tG]
  refine zU ?_
  refine zR trivial (zc hF (zc c1 (zc c2 (zc hA (zc hE trivial))))) trivial ?_
  simp [Rets, aret, Blk.cells, ty, Try.results5, ares, toT1, toT, borrow, borrow0, capCell, toTree0, tbool]
end Go.Proofs.Ytdhfgihnoimoaaa
