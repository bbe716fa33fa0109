/- A part of the proof. -/
import Derived.Test.YtfkegnhpihoncaaGreatPart28
import Derived.Test.YtfkegnhpihoncaaGreatPart24
import Derived.Test.YtfkegnhpihoncaaGreatLayerC
set_option linter.all false
set_option maxHeartbeats 4000000
set_option maxRecDepth 100000
namespace Go.Proofs.YtfkegnhpihoncaaGreat
open Go.Sp
theorem pairs_mem {g : G} (hc : checkG g = 0) (p : Int × Int) : p ∈ pairsE g.es ↔ p ∈ endsL g.es := by
 constructor
 ·intro h
  obtain ⟨e, he, rfl⟩ := List.mem_map.1 h
  have := (checkG_zero.1 hc).2.1 e he
  unfold okE at this
  exact List.mem_flatMap.2 ⟨e, he, List.mem_replicate.2 ⟨by omega, rfl⟩⟩
 ·intro h
  obtain ⟨e, he, rfl⟩ := endsL_mem h
  exact List.mem_map.2 ⟨e, he, rfl⟩
theorem roots_count {F : List Nat} (hF : FOk F) : ∀ n, n ≤ 12 → rootsN F n = (rootsL F n).length := by
 intro n
 induction n with
 | zero => intro _; rfl
 | succ n ih =>
  intro hn
  rw [rootsL_succ]
  simp only [rootsN, ih (by omega)]
  by_cases h : rootF F 12 n = n
  ·rw [if_pos h, if_pos ((root_iff hF (by omega)).1 h)]; simp
  ·rw [if_neg h, if_neg (fun e => h ((root_iff hF (by omega)).2 e))]; simp
theorem roots_same {l m : List (Int × Int)} (hl : In12 l) (hm : In12 m) (h : ∀ p, p ∈ l ↔ p ∈ m) : ∀ n, n ≤ 12 → rootsN (genS l).1 n = rootsN (genS m).1 n := by
 intro n
 induction n with
 | zero => intro _; rfl
 | succ n ih =>
  intro hn
  simp only [rootsN, ih (by omega)]
  have h1 := isRoot_iff hl (v := n) (by omega)
  have h2 := isRoot_iff hm (v := n) (by omega)
  have h3 : (∃ u, u < n ∧ Conn l u n) ↔ (∃ u, u < n ∧ Conn m u n) :=
   ⟨fun ⟨u, h4, h5⟩ => ⟨u, h4, h5.mono fun p hp => (h p).1 hp⟩, fun ⟨u, h4, h5⟩ => ⟨u, h4, h5.mono fun p hp => (h p).2 hp⟩⟩
  by_cases e : (genS l).1[n]? = some n
  ·rw [if_pos e, if_pos (h2.2 fun x => h1.1 e (h3.2 x))]
  ·rw [if_neg e, if_neg (fun x => e (h1.2 fun y => h2.1 x (h3.1 y)))]
theorem cparts_count {g : G} {n : Nat} (hc : checkG g = 0) (hn : g.n = n) : (partsV (genS (pairsE g.es)).1 n).length = partsN g.es n n := by
 have h12 := (checkG_zero.1 hc).1
 have hp := pairs_in12 hc
 have he : In12 (endsL g.es) := fun p h => hp p ((pairs_mem hc p).2 h)
 have h1 := parts_roots hc hn n (Nat.le_refl _)
 have h2 := roots_same hp he (pairs_mem hc) n (by omega)
 have h3 := roots_count (uf _ hp).ok n (by omega)
 rw [partsV_len]; omega
theorem Components_ok (g : G) (hl : g.es.length < 2 ^ 30) : ACall Tryz.prog 145 [tG g] (.tup [tlists (if checkG g ≠ 0 then [] else partsV (genS (pairsE g.es)).1 g.n.toNat), tint (checkG g)]) := by
 have hC := Check_ok g (by omega)
 by_cases hc : checkG g = 0
 ·have hJ := cjoined_ok g hc hl
  have hF := (uf _ (pairs_in12 hc)).ok
  have h12 := (checkG_zero.1 hc).1
  rw [if_neg (by omega), hc]
  rw [hc] at hC
  have hlF := hF.len
  unfold tF at hJ
  obtain ⟨n, es⟩ := g
  simp only at hJ h12 ⊢
  generalize (genS (pairsE es)).1 = F at *
  have hP3 := cparts_ok F hF n.toNat (by omega) (by omega) [.int .i64 n, .slice (eRows es) .none] (fun m _ c hc => by
   simp only [List.mem_cons, List.not_mem_nil, or_false] at hc
   rcases hc with rfl | rfl <;> exact True.intro) (fun c hc => by
   simp only [List.mem_cons, List.not_mem_nil, or_false] at hc
   rcases hc with rfl | rfl <;> rfl)
  rw [show ((n.toNat : Nat) : Int) = n by omega] at hP3
  generalize partsV F n.toNat = ps at *
  have hof : (fT F).map ofTree = fC F := fT_of F
  have hst := fC_store zero12 F (by rw [hlF]; rfl)
  have hz : fC zero12 = [.int .i64 0, .int .i64 0, .int .i64 0, .int .i64 0, .int .i64 0, .int .i64 0, .int .i64 0, .int .i64 0, .int .i64 0, .int .i64 0, .int .i64 0, .int .i64 0] := rfl
  rw [hz] at hst
  refine ACall.of_body Tryz.func145 rfl (by kernel_rfl) ?_
  simp only [entry, Tryz.ntmps145, tG]
  refine zU ?_
  repeat' (first|((first|(refine zT ?_;intro K' hK')|(refine zG ?_ ?_<;>(try refine zH ?_)<;>intro hguard<;>(try exact zX)<;>try intro K' hK'))<;>((try simp +contextual only [go_sem, fC_len, fC_free, hof, hst, hlF]);(repeat' first|(with_reducible refine hK' _ _ ?_;clear hK' K')|((with_reducible first|refine zK hC ?_|refine zK hJ ?_|refine ⟨_,_,hP3,?_⟩|refine ⟨_,hP3,?_⟩);try simp +contextual only [go_sem, fC_len, fC_free, hof, hst, hlF])|exact zY|with_reducible refine And.intro ?_ ?_|(with_reducible intro hpath;try exact zP)|(refine hK' _ _ ?_;clear hK' K')|fail);try refine zS ?_))|(refine zE ?_;refine hK _ _ ?_;clear hK K)|(refine zN ?_;try refine zS ?_)|refine zA ?_|(refine zB ?_;intro K hK)|(refine zC ?_ ?_<;>(try refine zH ?_)<;>intro hcond<;>try exact zX)|fail)
  simp [Rets, aret, Blk.cells, ty, Tryz.results145, ares, toT1, toT, borrow, borrow0, capCell, toTree0, tint, tlists]
 ·rw [if_pos hc]
  generalize checkG g = E at *
  obtain ⟨n, es⟩ := g
  refine ACall.of_body Tryz.func145 rfl (by kernel_rfl) ?_
  simp only [entry, Tryz.ntmps145, tG]
  refine zU ?_
  refine zR (zc @hc trivial) (zc hC trivial) trivial ?_
  simp [Rets, aret, Blk.cells, ty, Tryz.results145, ares, toT1, toT, borrow, borrow0, capCell, toTree0, tint, tlists, llRows]
theorem Connected_ok (g : G) (hl : g.es.length < 2 ^ 30) : ACall Tryz.prog 109 [tG g] (.tup [tbool (decide (checkG g = 0) && connB g), tint (checkG g)]) := by
 have hC := Components_ok g hl
 by_cases hc : checkG g = 0
 ·have h12 := (checkG_zero.1 hc).1
  have hcnt := cparts_count (n := g.n.toNat) hc (by omega)
  rw [if_neg (by omega)] at hC
  have hb : (decide (checkG g = 0) && connB g) = decide (((partsV (genS (pairsE g.es)).1 g.n.toNat).length : Int) = 1) := by
   rw [decide_eq_true hc, Bool.true_and]
   unfold connB
   rw [← hcnt]
   exact decide_eq_decide.2 (by omega)
  rw [hb]
  generalize partsV (genS (pairsE g.es)).1 g.n.toNat = ps at *
  generalize checkG g = E at *
  obtain ⟨n, es⟩ := g
  refine ACall.of_body Tryz.func109 rfl (by kernel_rfl) ?_
  simp only [entry, Tryz.ntmps109, tG]
  refine zU ?_
  refine zR (zc @llRows_len trivial) (zc hC trivial) trivial ?_
  simp [Rets, aret, Blk.cells, ty, Tryz.results109, ares, toT1, toT, borrow, borrow0, capCell, toTree0, tint, tbool]
 ·rw [if_pos hc] at hC
  rw [decide_eq_false hc, Bool.false_and]
  generalize checkG g = E at *
  obtain ⟨n, es⟩ := g
  refine ACall.of_body Tryz.func109 rfl (by kernel_rfl) ?_
  simp only [entry, Tryz.ntmps109, tG]
  refine zU ?_
  refine zR (zc @llRows_len trivial) (zc hC trivial) trivial ?_
  simp [Rets, aret, Blk.cells, ty, Tryz.results109, ares, toT1, toT, borrow, borrow0, capCell, toTree0, tint, tbool]
end Go.Proofs.YtfkegnhpihoncaaGreat
