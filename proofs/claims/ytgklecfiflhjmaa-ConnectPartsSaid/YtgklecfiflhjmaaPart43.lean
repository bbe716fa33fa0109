/- A part of the proof. -/
import Derived.Test.YtgklecfiflhjmaaPart41
import Derived.Test.YtgklecfiflhjmaaPart39
import Derived.Test.YtgklecfiflhjmaaPart42
import Derived.Test.YtgklecfiflhjmaaLayerC
set_option linter.all false
set_option maxHeartbeats 4000000
set_option maxRecDepth 100000
namespace Go.Proofs.Ytgklecfiflhjmaa
open Go.Sp
structure FewF (g : G) : Prop where
 es : g.es.length ≤ 40
 sz : checkG g = 0 → g.n ≤ 6 ∧ (endsL g.es).length ≤ 9
theorem few_of {g : G} (h : smallB g 6 9 = true) : FewF g := by
 unfold smallB at h
 simp only [Bool.and_eq_true, Bool.or_eq_true, decide_eq_true_eq] at h
 exact ⟨h.1, fun hc => by rcases h.2 with h2 | h2; exact absurd hc h2; exact ⟨h2.1, by omega⟩⟩
theorem partsV_sm (F : List Nat) (n : Nat) (hn : n ≤ 12) : (partsV F n).length < 2 ^ 40 ∧ ∀ l, l ∈ partsV F n → l.length < 2 ^ 40 := by
 refine ⟨by rw [partsV_len]; have := rootsL_len F n; omega, fun l hl => ?_⟩
 unfold partsV at hl
 obtain ⟨r, _, rfl⟩ := List.mem_map.1 hl
 unfold partV
 rw [List.length_map]
 have := List.length_filter_le (fun u => decide (rootF F 12 u = r)) (List.range n)
 rw [List.length_range] at this; omega
theorem Same_refl (a : List (List Int)) (h : a.length < 2 ^ 40 ∧ ∀ l, l ∈ a → l.length < 2 ^ 40) : ACall Try.prog 19 [tlists a, tlists a] (tbool true) := by
 have := SameLists_ok a a h.1 h.1 h.2 h.2
 rwa [decide_eq_true rfl] at this
theorem pairs_conn {g : G} (hc : checkG g = 0) {u w : Nat} : Conn (pairsE g.es) u w ↔ Conn (endsL g.es) u w :=
 ⟨fun h => h.mono fun p hp => (pairs_mem hc p).1 hp, fun h => h.mono fun p hp => (pairs_mem hc p).2 hp⟩
theorem Parts_law (g : G) (l : List Int) : ACall Try.prog 8 [tG g, tints l] (tbool true) := by
 have hF := FewG_ok g
 have hA := cawake_ok
 by_cases hf : smallB g 6 9 = true
 case neg =>
  rw [Bool.not_eq_true] at hf
  rw [hf] at hF
  obtain ⟨n, es⟩ := g
  refine ACall.of_body Try.func8 rfl (by kernel_rfl) ?_
  simp only [entry, Try.ntmps8, tG, tints]
  refine zU ?_
  refine zR trivial (zc hF (zc hA trivial)) trivial ?_
  simp [Rets, aret, Blk.cells, ty, Try.results8, ares, toT1, toT, borrow, borrow0, capCell, toTree0, tbool]
 rw [hf] at hF
 have hfw := few_of hf
 have hes := hfw.es
 by_cases hl60 : 60 < l.length
 ·have hl60I : (60 : Int) < (l.length : Int) := by omega
  obtain ⟨n, es⟩ := g
  refine ACall.of_body Try.func8 rfl (by kernel_rfl) ?_
  simp only [entry, Try.ntmps8, tG, tints]
  refine zU ?_
  refine zR (zc @iRows_len (zc @hl60I trivial)) (zc hF (zc hA trivial)) trivial ?_
  simp [Rets, aret, Blk.cells, ty, Try.results8, ares, toT1, toT, borrow, borrow0, capCell, toTree0, tbool]
 have hl60I : ¬ (60 : Int) < (l.length : Int) := by omega
 have hCk := CheckR_ok g (by omega)
 have hP := cParts_ok g l hes (by omega)
 have hCm := Components_ok g (by omega)
 have hCn := Connected_ok g (by omega)
 have hEd := cEdges_ok g l hes (by omega)
 by_cases hc : checkG g = 0
 case neg =>
  have he : edgE g l = checkG g := by unfold edgE; rw [if_pos hc]
  rw [he, if_pos hc] at hP
  rw [he] at hEd
  rw [if_pos hc] at hCm
  rw [decide_eq_false hc, Bool.false_and] at hCn
  generalize checkG g = E at *
  obtain ⟨n, es⟩ := g
  refine ACall.of_body Try.func8 rfl (by kernel_rfl) ?_
  simp only [entry, Try.ntmps8, tG, tints]
  refine zU ?_
  refine zR (zc @iRows_len (zc @hl60I (zc @hc (zc @llRows_len trivial)))) (zc hF (zc hA (zc hCk (zc hP (zc hCm (zc hCn (zc hEd trivial))))))) trivial ?_
  simp [Rets, aret, Blk.cells, ty, Try.results8, ares, toT1, toT, borrow, borrow0, capCell, toTree0, tbool]
 have h12 := (checkG_zero.1 hc).1
 have hsz := hfw.sz hc
 have hn : g.n = (g.n.toNat : Nat) := by omega
 have hRE := refEdges_ok g l hes hc (by omega)
 have he : edgE g l = subE (endsL g.es).length none l := by unfold edgE; rw [if_neg (by omega)]
 rw [← he] at hRE
 have hRC := refConn_ok g hes hc
 have hRm := refComponents_ok g g.n.toNat hc hn (by omega)
 rw [comp_parts hc hn (pairs_in12 hc) fun u w _ _ => pairs_conn hc] at hRm
 have hS := Same_refl _ (partsV_sm (genS (pairsE g.es)).1 g.n.toNat (by omega))
 rw [if_neg (by omega)] at hCm
 rw [hc] at hCk hCm hCn
 rw [decide_eq_true rfl, Bool.true_and] at hCn
 generalize partsV (genS (pairsE g.es)).1 g.n.toNat = ps at *
 by_cases h0 : edgE g l = 0
 case neg =>
  rw [if_pos h0] at hP
  generalize edgE g l = E at *
  generalize connB g = cb at *
  obtain ⟨n, es⟩ := g
  refine ACall.of_body Try.func8 rfl (by kernel_rfl) ?_
  simp only [entry, Try.ntmps8, tG, tints]
  refine zU ?_
  cases cb
  ·
   repeat' (first|((first|(refine zT ?_;intro K' hK')|(refine zG ?_ ?_<;>(try refine zH ?_)<;>intro hguard<;>(try exact zX)<;>try intro K' hK'))<;>((try simp +contextual only [go_sem, iRows_len, hl60I, h0, llRows_len]);(repeat' first|(with_reducible refine hK' _ _ ?_;clear hK' K')|((with_reducible first|refine zK hF ?_|refine zK hA ?_|refine zK hCk ?_|refine zK hP ?_|refine zK hCm ?_|refine zK hCn ?_|refine zK hEd ?_|refine zK hRE ?_|refine zK hRC ?_|refine zK hRm ?_|refine zK hS ?_);try simp +contextual only [go_sem, iRows_len, hl60I, h0, llRows_len])|exact zY|with_reducible refine And.intro ?_ ?_|(with_reducible intro hpath;try exact zP)|(refine hK' _ _ ?_;clear hK' K')|fail);try refine zS ?_))|(refine zE ?_;refine hK _ _ ?_;clear hK K)|(refine zN ?_;try refine zS ?_)|refine zA ?_|(refine zB ?_;intro K hK)|(refine zC ?_ ?_<;>(try refine zH ?_)<;>intro hcond<;>try exact zX)|fail)
   simp [Rets, aret, Blk.cells, ty, Try.results8, ares, toT1, toT, borrow, borrow0, capCell, toTree0, tbool]
  ·
   repeat' (first|((first|(refine zT ?_;intro K' hK')|(refine zG ?_ ?_<;>(try refine zH ?_)<;>intro hguard<;>(try exact zX)<;>try intro K' hK'))<;>((try simp +contextual only [go_sem, iRows_len, hl60I, h0, llRows_len]);(repeat' first|(with_reducible refine hK' _ _ ?_;clear hK' K')|((with_reducible first|refine zK hF ?_|refine zK hA ?_|refine zK hCk ?_|refine zK hP ?_|refine zK hCm ?_|refine zK hCn ?_|refine zK hEd ?_|refine zK hRE ?_|refine zK hRC ?_|refine zK hRm ?_|refine zK hS ?_);try simp +contextual only [go_sem, iRows_len, hl60I, h0, llRows_len])|exact zY|with_reducible refine And.intro ?_ ?_|(with_reducible intro hpath;try exact zP)|(refine hK' _ _ ?_;clear hK' K')|fail);try refine zS ?_))|(refine zE ?_;refine hK _ _ ?_;clear hK K)|(refine zN ?_;try refine zS ?_)|refine zA ?_|(refine zB ?_;intro K hK)|(refine zC ?_ ?_<;>(try refine zH ?_)<;>intro hcond<;>try exact zX)|fail)
   simp [Rets, aret, Blk.cells, ty, Try.results8, ares, toT1, toT, borrow, borrow0, capCell, toTree0, tbool]
 rw [he] at h0
 have hr := subE_range h0
 have hll : l.length ≤ 9 := by have := subE_len0 (by omega) h0; omega
 rw [← he] at h0
 have hW := With_ok g l hes hc hr (by omega)
 have hwc := with_check hc hr (by omega)
 have hwn : (withG g l).n = (g.n.toNat : Nat) := by rw [← hn]; rfl
 have hRw := refComponents_ok (withG g l) g.n.toNat hwc.1 hwn (by omega)
 rw [comp_parts hwc.1 hwn (pkL_in12 hc hr) fun u w _ _ => (with_conn hc hr).symm] at hRw
 have hS2 := Same_refl _ (partsV_sm (genS (pkL (endsL g.es) l)).1 g.n.toNat (by omega))
 rw [if_neg (by omega), h0] at hP
 rw [h0] at hEd hRE
 generalize partsV (genS (pkL (endsL g.es) l)).1 g.n.toNat = qs at *
 generalize connB g = cb at *
 generalize withG g l = gw at *
 obtain ⟨n, es⟩ := g
 obtain ⟨n', es'⟩ := gw
 refine ACall.of_body Try.func8 rfl (by kernel_rfl) ?_
 simp only [entry, Try.ntmps8, tG, tints]
 refine zU ?_
 cases cb
 ·
  repeat' (first|((first|(refine zT ?_;intro K' hK')|(refine zG ?_ ?_<;>(try refine zH ?_)<;>intro hguard<;>(try exact zX)<;>try intro K' hK'))<;>((try simp +contextual only [go_sem, iRows_len, hl60I, llRows_len]);(repeat' first|(with_reducible refine hK' _ _ ?_;clear hK' K')|((with_reducible first|refine zK hF ?_|refine zK hA ?_|refine zK hCk ?_|refine zK hP ?_|refine zK hCm ?_|refine zK hCn ?_|refine zK hEd ?_|refine zK hRE ?_|refine zK hRC ?_|refine zK hRm ?_|refine zK hS ?_|refine zK hW ?_|refine zK hRw ?_|refine zK hS2 ?_);try simp +contextual only [go_sem, iRows_len, hl60I, llRows_len])|exact zY|with_reducible refine And.intro ?_ ?_|(with_reducible intro hpath;try exact zP)|(refine hK' _ _ ?_;clear hK' K')|fail);try refine zS ?_))|(refine zE ?_;refine hK _ _ ?_;clear hK K)|(refine zN ?_;try refine zS ?_)|refine zA ?_|(refine zB ?_;intro K hK)|(refine zC ?_ ?_<;>(try refine zH ?_)<;>intro hcond<;>try exact zX)|fail)
  simp [Rets, aret, Blk.cells, ty, Try.results8, ares, toT1, toT, borrow, borrow0, capCell, toTree0, tbool]
 ·
  repeat' (first|((first|(refine zT ?_;intro K' hK')|(refine zG ?_ ?_<;>(try refine zH ?_)<;>intro hguard<;>(try exact zX)<;>try intro K' hK'))<;>((try simp +contextual only [go_sem, iRows_len, hl60I, llRows_len]);(repeat' first|(with_reducible refine hK' _ _ ?_;clear hK' K')|((with_reducible first|refine zK hF ?_|refine zK hA ?_|refine zK hCk ?_|refine zK hP ?_|refine zK hCm ?_|refine zK hCn ?_|refine zK hEd ?_|refine zK hRE ?_|refine zK hRC ?_|refine zK hRm ?_|refine zK hS ?_|refine zK hW ?_|refine zK hRw ?_|refine zK hS2 ?_);try simp +contextual only [go_sem, iRows_len, hl60I, llRows_len])|exact zY|with_reducible refine And.intro ?_ ?_|(with_reducible intro hpath;try exact zP)|(refine hK' _ _ ?_;clear hK' K')|fail);try refine zS ?_))|(refine zE ?_;refine hK _ _ ?_;clear hK K)|(refine zN ?_;try refine zS ?_)|refine zA ?_|(refine zB ?_;intro K hK)|(refine zC ?_ ?_<;>(try refine zH ?_)<;>intro hcond<;>try exact zX)|fail)
  simp [Rets, aret, Blk.cells, ty, Try.results8, ares, toT1, toT, borrow, borrow0, capCell, toTree0, tbool]
end Go.Proofs.Ytgklecfiflhjmaa
