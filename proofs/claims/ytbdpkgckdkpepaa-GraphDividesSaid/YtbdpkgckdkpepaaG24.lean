/- A part of the proof: contracts of functions of the program, or plain lemmas. -/
import Derived.Test.YtbdpkgckdkpepaaG20
import Derived.Test.YtbdpkgckdkpepaaG21
import Derived.Test.YtbdpkgckdkpepaaG23
set_option linter.all false
namespace Go.Proofs.Ytbdpkgckdkpepaa
open Go.Sp
set_option linter.unusedSimpArgs false
set_option linter.unusedVariables false
set_option maxHeartbeats 4000000
set_option maxRecDepth 100000


def rightB (g : G) : Bool := lightB g && decide (checkG g = 0)
theorem right_ok (g : G) : ACall Try.prog 33 [tG g] (tbool (rightB g)) := by
  refine ACall.of_body Try.func33 rfl (by kernel_rfl) ?_
  simp only [entry, Try.ntmps33, ofT, ofT1, ofTree, List.map_cons, List.map_nil, List.length_cons, List.length_nil, Nat.reduceAdd, Nat.reduceSub, List.replicate_succ, List.replicate_zero, List.cons_append, List.nil_append, tG]
  by_cases hl : lightB g = true
  · have hg : g.es.length ≤ 40 := by unfold lightB at hl; simp at hl; exact hl.1
    have h0 : ACall Try.prog 12 [tG g] (tbool true) := by have := light_ok g; rwa [hl] at this
    repeat' (first
      | (with_reducible refine AWp.seq_region (fun K hK => ?_))
      | (with_reducible refine AWp.last_region (fun K hK => ?_))
      | (with_reducible refine AWp.seq_draw (by with_unfolding_all kernel_rfl) (fun K hK => ?_))
      | (with_reducible refine AWp.last_draw (by with_unfolding_all kernel_rfl) (fun K hK => ?_))
      | ((with_reducible first | refine vcEnd ?_ | refine vcEndD ?_ | refine vcEndM ?_); refine hK _ _ ?_; clear hK; clear K)
      | ((with_reducible first | refine vcStepN (by rfl) (by with_unfolding_all rfl) ?_ | refine vcStepND (by rfl) (by with_unfolding_all rfl) ?_ | refine vcStepNM (by rfl) (by with_unfolding_all rfl) ?_); try simp only [aput, List.set_cons_succ, List.set_cons_zero, List.length_cons, List.length_nil, List.length_append, List.cons_append, List.nil_append, Nat.reduceAdd, List.append_nil])
      | ((with_reducible first | refine vcStep (by rfl) (fun K' hK' => ?_) | refine vcStepD (by rfl) (fun K' hK' => ?_) | refine vcStepM (by rfl) (fun K' hK' => ?_) | refine vcStepG (by rfl) (by with_unfolding_all rfl) (fun hguard K' hK' => ?_) (fun hguard => ?_) | refine vcStepGD (by rfl) (by with_unfolding_all rfl) (fun hguard K' hK' => ?_) (fun hguard => ?_) | refine vcStepGM (by rfl) (by with_unfolding_all rfl) (fun hguard K' hK' => ?_) (fun hguard => ?_)) <;> ((try (replace hguard := hguard; (try simp only [decide_eq_true_eq, decide_eq_false_iff_not, Bool.not_eq_true', Bool.not_eq_false', Bool.not_true, Bool.not_false, Int.not_lt, Int.not_le, reduceCtorEq, Bool.true_eq_false, Bool.false_eq_true] at hguard); (try (exfalso; (try clear hK'); (try clear hK); omega)))) <;> ((try (simp +contextual only [Nat.reduceAdd, Nat.reduceSub, Nat.reduceMul, Nat.reduceLeDiff, Nat.reduceLT, Int.reduceToNat, Int.reduceLT, Int.reduceLE, Int.reduceNeg, reduceCtorEq, Nat.reduceEqDiff, go_sem])); (repeat' (first | ((with_reducible refine hK' _ _ ?_); clear hK'; clear K'; try simp only [aput, List.set_cons_succ, List.set_cons_zero, List.length_cons, List.length_nil, List.length_append, List.cons_append, List.nil_append, Nat.reduceAdd, List.append_nil]) | ((with_reducible first | refine ⟨_, _, ACall.h (h0) (by with_unfolding_all rfl), ?_⟩ | refine ⟨_, ACall.h (h0) (by with_unfolding_all rfl), ?_⟩ | refine ⟨_, _, ACall.hb (h0) (by with_unfolding_all rfl) (by with_unfolding_all rfl), ?_⟩ | refine ⟨_, ACall.hb (h0) (by with_unfolding_all rfl) (by with_unfolding_all rfl), ?_⟩ | refine ⟨_, _, ACall.h (CheckR_ok g (by omega)) (by with_unfolding_all rfl), ?_⟩ | refine ⟨_, ACall.h (CheckR_ok g (by omega)) (by with_unfolding_all rfl), ?_⟩ | refine ⟨_, _, ACall.hb (CheckR_ok g (by omega)) (by with_unfolding_all rfl) (by with_unfolding_all rfl), ?_⟩ | refine ⟨_, ACall.hb (CheckR_ok g (by omega)) (by with_unfolding_all rfl) (by with_unfolding_all rfl), ?_⟩); (try simp +contextual only [Nat.reduceAdd, Nat.reduceSub, Nat.reduceMul, Nat.reduceLeDiff, Nat.reduceLT, Int.reduceToNat, Int.reduceLT, Int.reduceLE, Int.reduceNeg, reduceCtorEq, Nat.reduceEqDiff, go_sem])) | (with_reducible refine And.intro ?_ ?_) | ((with_reducible intro hpath); try first | (exfalso; (try clear hK'); (try clear hK); omega) | (exact absurd hpath (by assumption))) | ((with_reducible first | refine gi1 ?_ | refine gi2 ?_ | refine gn1 ?_ | refine gn2 ?_ | refine gi3 ?_ | refine gn3 ?_ | refine gnot ?_); omega) | (with_reducible exact True.intro) | ((refine hK' _ _ ?_); clear hK'; clear K'; try simp only [aput, List.set_cons_succ, List.set_cons_zero, List.length_cons, List.length_nil, List.length_append, List.cons_append, List.nil_append, Nat.reduceAdd, List.append_nil]))); (try simp only [aput, List.set_cons_succ, List.set_cons_zero, List.length_cons, List.length_nil, List.length_append, List.cons_append, List.nil_append, Nat.reduceAdd, List.append_nil]))))
      | (with_reducible refine AWp.seq ?_)
      | (with_reducible refine AWp.block ?_)
      | (with_reducible refine AWp.skip ?_)
      | (with_reducible refine AWp.ret ?_)
      | (with_reducible refine AWp.exit ?_)
      | (refine AWp.cond _ rfl (fun hcond => ?_) (fun hcond => ?_) <;> first | (simp only [reduceCtorEq, Bool.true_eq_false, Bool.false_eq_true] at hcond; done) | (simp only [decide_eq_true_eq, decide_eq_false_iff_not, Bool.not_eq_true', Bool.not_eq_false', Int.not_lt, Int.not_le] at hcond; try (exfalso; omega)) | skip)
      | (with_reducible refine AThen.n ?_)
      | (with_reducible refine AThen.r ?_)
      | (with_reducible refine AThen.e ?_)
      | (with_reducible refine AInBlock.n ?_)
      | (with_reducible refine AInBlock.r ?_)
      | (with_reducible refine AInBlock.hit ?_)
      | (with_reducible refine AInBlock.miss (by with_unfolding_all decide) ?_))
    have e : rightB g = decide (checkG g = 0) := by unfold rightB; rw [hl]; rfl
    simp [Rets, aret, Blk.cells, ty, Try.results33, ares, toT1, toT, borrow, borrow0, capCell, toTree0, tbool, e]
  ·
    have hl : lightB g = false := by simpa using hl
    have h0 : ACall Try.prog 12 [tG g] (tbool false) := by have := light_ok g; rwa [hl] at this
    repeat' (first
      | (with_reducible refine AWp.seq_region (fun K hK => ?_))
      | (with_reducible refine AWp.last_region (fun K hK => ?_))
      | (with_reducible refine AWp.seq_draw (by with_unfolding_all kernel_rfl) (fun K hK => ?_))
      | (with_reducible refine AWp.last_draw (by with_unfolding_all kernel_rfl) (fun K hK => ?_))
      | ((with_reducible first | refine vcEnd ?_ | refine vcEndD ?_ | refine vcEndM ?_); refine hK _ _ ?_; clear hK; clear K)
      | ((with_reducible first | refine vcStepN (by rfl) (by with_unfolding_all rfl) ?_ | refine vcStepND (by rfl) (by with_unfolding_all rfl) ?_ | refine vcStepNM (by rfl) (by with_unfolding_all rfl) ?_); try simp only [aput, List.set_cons_succ, List.set_cons_zero, List.length_cons, List.length_nil, List.length_append, List.cons_append, List.nil_append, Nat.reduceAdd, List.append_nil])
      | ((with_reducible first | refine vcStep (by rfl) (fun K' hK' => ?_) | refine vcStepD (by rfl) (fun K' hK' => ?_) | refine vcStepM (by rfl) (fun K' hK' => ?_) | refine vcStepG (by rfl) (by with_unfolding_all rfl) (fun hguard K' hK' => ?_) (fun hguard => ?_) | refine vcStepGD (by rfl) (by with_unfolding_all rfl) (fun hguard K' hK' => ?_) (fun hguard => ?_) | refine vcStepGM (by rfl) (by with_unfolding_all rfl) (fun hguard K' hK' => ?_) (fun hguard => ?_)) <;> ((try (replace hguard := hguard; (try simp only [decide_eq_true_eq, decide_eq_false_iff_not, Bool.not_eq_true', Bool.not_eq_false', Bool.not_true, Bool.not_false, Int.not_lt, Int.not_le, reduceCtorEq, Bool.true_eq_false, Bool.false_eq_true] at hguard); (try (exfalso; (try clear hK'); (try clear hK); omega)))) <;> ((try (simp +contextual only [Nat.reduceAdd, Nat.reduceSub, Nat.reduceMul, Nat.reduceLeDiff, Nat.reduceLT, Int.reduceToNat, Int.reduceLT, Int.reduceLE, Int.reduceNeg, reduceCtorEq, Nat.reduceEqDiff, go_sem])); (repeat' (first | ((with_reducible refine hK' _ _ ?_); clear hK'; clear K'; try simp only [aput, List.set_cons_succ, List.set_cons_zero, List.length_cons, List.length_nil, List.length_append, List.cons_append, List.nil_append, Nat.reduceAdd, List.append_nil]) | ((with_reducible first | refine ⟨_, _, ACall.h (h0) (by with_unfolding_all rfl), ?_⟩ | refine ⟨_, ACall.h (h0) (by with_unfolding_all rfl), ?_⟩ | refine ⟨_, _, ACall.hb (h0) (by with_unfolding_all rfl) (by with_unfolding_all rfl), ?_⟩ | refine ⟨_, ACall.hb (h0) (by with_unfolding_all rfl) (by with_unfolding_all rfl), ?_⟩); (try simp +contextual only [Nat.reduceAdd, Nat.reduceSub, Nat.reduceMul, Nat.reduceLeDiff, Nat.reduceLT, Int.reduceToNat, Int.reduceLT, Int.reduceLE, Int.reduceNeg, reduceCtorEq, Nat.reduceEqDiff, go_sem])) | (with_reducible refine And.intro ?_ ?_) | ((with_reducible intro hpath); try first | (exfalso; (try clear hK'); (try clear hK); omega) | (exact absurd hpath (by assumption))) | ((with_reducible first | refine gi1 ?_ | refine gi2 ?_ | refine gn1 ?_ | refine gn2 ?_ | refine gi3 ?_ | refine gn3 ?_ | refine gnot ?_); omega) | (with_reducible exact True.intro) | ((refine hK' _ _ ?_); clear hK'; clear K'; try simp only [aput, List.set_cons_succ, List.set_cons_zero, List.length_cons, List.length_nil, List.length_append, List.cons_append, List.nil_append, Nat.reduceAdd, List.append_nil]))); (try simp only [aput, List.set_cons_succ, List.set_cons_zero, List.length_cons, List.length_nil, List.length_append, List.cons_append, List.nil_append, Nat.reduceAdd, List.append_nil]))))
      | (with_reducible refine AWp.seq ?_)
      | (with_reducible refine AWp.block ?_)
      | (with_reducible refine AWp.skip ?_)
      | (with_reducible refine AWp.ret ?_)
      | (with_reducible refine AWp.exit ?_)
      | (refine AWp.cond _ rfl (fun hcond => ?_) (fun hcond => ?_) <;> first | (simp only [reduceCtorEq, Bool.true_eq_false, Bool.false_eq_true] at hcond; done) | (simp only [decide_eq_true_eq, decide_eq_false_iff_not, Bool.not_eq_true', Bool.not_eq_false', Int.not_lt, Int.not_le] at hcond; try (exfalso; omega)) | skip)
      | (with_reducible refine AThen.n ?_)
      | (with_reducible refine AThen.r ?_)
      | (with_reducible refine AThen.e ?_)
      | (with_reducible refine AInBlock.n ?_)
      | (with_reducible refine AInBlock.r ?_)
      | (with_reducible refine AInBlock.hit ?_)
      | (with_reducible refine AInBlock.miss (by with_unfolding_all decide) ?_))
    have e : rightB g = false := by unfold rightB; rw [hl]; rfl
    simp [Rets, aret, Blk.cells, ty, Try.results33, ares, toT1, toT, borrow, borrow0, capCell, toTree0, tbool, e]
/-- What a right and light graph is. -/
structure RightG (g : G) (n : Nat) : Prop where
  c : checkG g = 0
  nn : g.n = n
  n1 : 1 ≤ n
  n12 : n ≤ 12
  l : g.es.length ≤ 40
  s : (endsL g.es).length ≤ 400
theorem rightG_of {g : G} (h : rightB g = true) : ∃ n, RightG g n := by
  unfold rightB lightB at h
  simp only [Bool.and_eq_true, Bool.or_eq_true, decide_eq_true_eq] at h
  obtain ⟨⟨h1, h2⟩, h3⟩ := h
  have := (checkG_zero.1 h3).1
  exact ⟨g.n.toNat, h3, by omega, by omega, by omega, h1, by omega⟩
theorem at_one {g : G} {n : Nat} (h : RightG g n) {v : Nat} (hv : v < n) : atE g [(v : Int)] = 0 := by
  have := h.c; have := h.nn
  unfold atE; rw [if_neg (by omega), if_pos (by intro x hx; simp at hx; subst hx; omega)]
theorem at_two {g : G} {n : Nat} (h : RightG g n) {v u : Nat} (hv : v < n) (hu : u < n) : atE g [(v : Int), (u : Int)] = 0 := by
  have := h.c; have := h.nn
  unfold atE; rw [if_neg (by omega), if_pos (by intro x hx; simp at hx; rcases hx with rfl | rfl <;> omega)]
def hs1 (k : Int) (v u : Nat) : Int := if v < u then k else 0
theorem hs1_lt {k : Int} {v u : Nat} (h : u < v) : hs1 k v (u + 1) = 0 ∧ hs1 k v u = 0 := by
  unfold hs1; rw [if_neg (by omega), if_neg (by omega)]; simp
theorem hs1_eq {k : Int} {v : Nat} : hs1 k v (v + 1) = k ∧ hs1 k v v = 0 := by
  unfold hs1; rw [if_pos (by omega), if_neg (by omega)]; simp
theorem hs1_gt {k : Int} {v u : Nat} (h : v < u) : hs1 k v (u + 1) = k ∧ hs1 k v u = k := by
  unfold hs1; rw [if_pos (by omega), if_pos (by omega)]; simp
theorem hs1_ne {k : Int} {v u : Nat} (h : u ≠ v) : hs1 k v (u + 1) = hs1 k v u := by
  rcases Nat.lt_or_gt_of_ne h with h | h
  · rw [(hs1_lt h).1, (hs1_lt h).2]
  · rw [(hs1_gt h).1, (hs1_gt h).2]
/-- What stands behind u rounds: the degree less the loops; what joins v with the vertices below u but itself; the sum. -/
def hsD (d k : Int) (v u : Nat) : Int := d - 2 * hs1 k v u
def hsN (es : List E) (v u : Nat) : Int := sumR (fun u => cntL es (min (v : Int) u) (max (v : Int) u)) u - hs1 (cntL es v v) v u
def hsS (s k : Int) (v u : Nat) : Int := s + 2 * hs1 k v u
@[simp] theorem hsD_zero (d k : Int) (v : Nat) : hsD d k v 0 = d := by unfold hsD hs1; rw [if_neg (by omega)]; omega
@[simp] theorem hsN_zero (es : List E) (v : Nat) : hsN es v 0 = 0 := by unfold hsN hs1; rw [if_neg (by omega)]; rfl
@[simp] theorem hsS_zero (s k : Int) (v : Nat) : hsS s k v 0 = s := by unfold hsS hs1; rw [if_neg (by omega)]; omega
theorem Handshakes_ok (g : G) : ACall Try.prog 10 [tG g] (tbool true) := by
  refine ACall.of_body Try.func10 rfl (by kernel_rfl) ?_
  simp only [entry, Try.ntmps10, ofT, ofT1, ofTree, List.map_cons, List.map_nil, List.length_cons, List.length_nil, Nat.reduceAdd, Nat.reduceSub, List.replicate_succ, List.replicate_zero, List.cons_append, List.nil_append, tG]
  by_cases hr : rightB g = true
  case neg =>
    have h0 : ACall Try.prog 33 [tG g] (tbool false) := by have := right_ok g; rwa [show rightB g = false by simpa using hr] at this
    repeat' (first
      | (with_reducible refine AWp.seq_region (fun K hK => ?_))
      | (with_reducible refine AWp.last_region (fun K hK => ?_))
      | (with_reducible refine AWp.seq_draw (by with_unfolding_all kernel_rfl) (fun K hK => ?_))
      | (with_reducible refine AWp.last_draw (by with_unfolding_all kernel_rfl) (fun K hK => ?_))
      | ((with_reducible first | refine vcEnd ?_ | refine vcEndD ?_ | refine vcEndM ?_); refine hK _ _ ?_; clear hK; clear K)
      | ((with_reducible first | refine vcStepN (by rfl) (by with_unfolding_all rfl) ?_ | refine vcStepND (by rfl) (by with_unfolding_all rfl) ?_ | refine vcStepNM (by rfl) (by with_unfolding_all rfl) ?_); try simp only [aput, List.set_cons_succ, List.set_cons_zero, List.length_cons, List.length_nil, List.length_append, List.cons_append, List.nil_append, Nat.reduceAdd, List.append_nil])
      | ((with_reducible first | refine vcStep (by rfl) (fun K' hK' => ?_) | refine vcStepD (by rfl) (fun K' hK' => ?_) | refine vcStepM (by rfl) (fun K' hK' => ?_) | refine vcStepG (by rfl) (by with_unfolding_all rfl) (fun hguard K' hK' => ?_) (fun hguard => ?_) | refine vcStepGD (by rfl) (by with_unfolding_all rfl) (fun hguard K' hK' => ?_) (fun hguard => ?_) | refine vcStepGM (by rfl) (by with_unfolding_all rfl) (fun hguard K' hK' => ?_) (fun hguard => ?_)) <;> ((try (replace hguard := hguard; (try simp only [decide_eq_true_eq, decide_eq_false_iff_not, Bool.not_eq_true', Bool.not_eq_false', Bool.not_true, Bool.not_false, Int.not_lt, Int.not_le, reduceCtorEq, Bool.true_eq_false, Bool.false_eq_true] at hguard); (try (exfalso; (try clear hK'); (try clear hK); omega)))) <;> ((try (simp +contextual only [Nat.reduceAdd, Nat.reduceSub, Nat.reduceMul, Nat.reduceLeDiff, Nat.reduceLT, Int.reduceToNat, Int.reduceLT, Int.reduceLE, Int.reduceNeg, reduceCtorEq, Nat.reduceEqDiff, go_sem])); (repeat' (first | ((with_reducible refine hK' _ _ ?_); clear hK'; clear K'; try simp only [aput, List.set_cons_succ, List.set_cons_zero, List.length_cons, List.length_nil, List.length_append, List.cons_append, List.nil_append, Nat.reduceAdd, List.append_nil]) | ((with_reducible first | refine ⟨_, _, ACall.h (h0) (by with_unfolding_all rfl), ?_⟩ | refine ⟨_, ACall.h (h0) (by with_unfolding_all rfl), ?_⟩ | refine ⟨_, _, ACall.hb (h0) (by with_unfolding_all rfl) (by with_unfolding_all rfl), ?_⟩ | refine ⟨_, ACall.hb (h0) (by with_unfolding_all rfl) (by with_unfolding_all rfl), ?_⟩ | refine ⟨_, _, ACall.h (awake_ok) (by with_unfolding_all rfl), ?_⟩ | refine ⟨_, ACall.h (awake_ok) (by with_unfolding_all rfl), ?_⟩ | refine ⟨_, _, ACall.hb (awake_ok) (by with_unfolding_all rfl) (by with_unfolding_all rfl), ?_⟩ | refine ⟨_, ACall.hb (awake_ok) (by with_unfolding_all rfl) (by with_unfolding_all rfl), ?_⟩); (try simp +contextual only [Nat.reduceAdd, Nat.reduceSub, Nat.reduceMul, Nat.reduceLeDiff, Nat.reduceLT, Int.reduceToNat, Int.reduceLT, Int.reduceLE, Int.reduceNeg, reduceCtorEq, Nat.reduceEqDiff, go_sem])) | (with_reducible refine And.intro ?_ ?_) | ((with_reducible intro hpath); try first | (exfalso; (try clear hK'); (try clear hK); omega) | (exact absurd hpath (by assumption))) | ((with_reducible first | refine gi1 ?_ | refine gi2 ?_ | refine gn1 ?_ | refine gn2 ?_ | refine gi3 ?_ | refine gn3 ?_ | refine gnot ?_); omega) | (with_reducible exact True.intro) | ((refine hK' _ _ ?_); clear hK'; clear K'; try simp only [aput, List.set_cons_succ, List.set_cons_zero, List.length_cons, List.length_nil, List.length_append, List.cons_append, List.nil_append, Nat.reduceAdd, List.append_nil]))); (try simp only [aput, List.set_cons_succ, List.set_cons_zero, List.length_cons, List.length_nil, List.length_append, List.cons_append, List.nil_append, Nat.reduceAdd, List.append_nil]))))
      | (with_reducible refine AWp.seq ?_)
      | (with_reducible refine AWp.block ?_)
      | (with_reducible refine AWp.skip ?_)
      | (with_reducible refine AWp.ret ?_)
      | (with_reducible refine AWp.exit ?_)
      | (refine AWp.cond _ rfl (fun hcond => ?_) (fun hcond => ?_) <;> first | (simp only [reduceCtorEq, Bool.true_eq_false, Bool.false_eq_true] at hcond; done) | (simp only [decide_eq_true_eq, decide_eq_false_iff_not, Bool.not_eq_true', Bool.not_eq_false', Int.not_lt, Int.not_le] at hcond; try (exfalso; omega)) | skip)
      | (with_reducible refine AThen.n ?_)
      | (with_reducible refine AThen.r ?_)
      | (with_reducible refine AThen.e ?_)
      | (with_reducible refine AInBlock.n ?_)
      | (with_reducible refine AInBlock.r ?_)
      | (with_reducible refine AInBlock.hit ?_)
      | (with_reducible refine AInBlock.miss (by with_unfolding_all decide) ?_))
    simp [Rets, aret, Blk.cells, ty, Try.results10, ares, toT1, toT, borrow, borrow0, capCell, toTree0, tbool]
  have h0 : ACall Try.prog 33 [tG g] (tbool true) := by have := right_ok g; rwa [hr] at this
  obtain ⟨n, hR⟩ := rightG_of hr
  have hl := hR.l
  have hn := hR.nn
  have hn12 := hR.n12
  have hs400 := hR.s
  have hc := hR.c
  have hsz : ACall Try.prog 15 [tG g] (.tup [tint (endsL g.es).length, tint 0]) := by
    have := Size_ok g (by omega); rwa [hc, if_neg (by decide)] at this
  obtain ⟨hA, hB, hC⟩ := handshake hc hn
  have hmul := (checkG_zero.1 hc).2.1
  have hm1 : ∀ e, e ∈ g.es → 1 ≤ e.m ∧ e.m ≤ 50 := fun e he => by have := hmul e he; unfold okE at this; omega
  have hcb : ∀ a b, 0 ≤ cntL g.es a b ∧ cntL g.es a b ≤ 50 := fun a b => ⟨cntL_ge fun e he => (hm1 e he).1, cntL_le (fun e he => (hm1 e he).2) (by omega)⟩
  have hvb : ∀ v, 0 ≤ valL v g.es ∧ valL v g.es ≤ 2000 := fun v => by have := valL_bound (v := v) hm1; omega
  have hSb : ∀ v, v ≤ n → 0 ≤ sumR (fun v => valL v g.es + 2 * cntL g.es v v) v ∧ sumR (fun v => valL v g.es + 2 * cntL g.es v v) v ≤ 2100 * 12 := fun v hv => by
    have := sumR_bound (f := fun v => valL v g.es + 2 * cntL g.es v v) (n := v) (k := 2100) (fun i _ => by have := hvb i; have := hcb i i; first | omega | (simp only; omega))
    omega
  repeat' (first
    | (with_reducible refine AWp.seq_region (fun K hK => ?_))
    | (with_reducible refine AWp.last_region (fun K hK => ?_))
    | (with_reducible refine AWp.seq_draw (by with_unfolding_all kernel_rfl) (fun K hK => ?_))
    | (with_reducible refine AWp.last_draw (by with_unfolding_all kernel_rfl) (fun K hK => ?_))
    | ((with_reducible first | refine vcEnd ?_ | refine vcEndD ?_ | refine vcEndM ?_); refine hK _ _ ?_; clear hK; clear K)
    | ((with_reducible first | refine vcStepN (by rfl) (by with_unfolding_all rfl) ?_ | refine vcStepND (by rfl) (by with_unfolding_all rfl) ?_ | refine vcStepNM (by rfl) (by with_unfolding_all rfl) ?_); try simp only [aput, List.set_cons_succ, List.set_cons_zero, List.length_cons, List.length_nil, List.length_append, List.cons_append, List.nil_append, Nat.reduceAdd, List.append_nil])
    | ((with_reducible first | refine vcStep (by rfl) (fun K' hK' => ?_) | refine vcStepD (by rfl) (fun K' hK' => ?_) | refine vcStepM (by rfl) (fun K' hK' => ?_) | refine vcStepG (by rfl) (by with_unfolding_all rfl) (fun hguard K' hK' => ?_) (fun hguard => ?_) | refine vcStepGD (by rfl) (by with_unfolding_all rfl) (fun hguard K' hK' => ?_) (fun hguard => ?_) | refine vcStepGM (by rfl) (by with_unfolding_all rfl) (fun hguard K' hK' => ?_) (fun hguard => ?_)) <;> ((try (replace hguard := hguard; (try simp only [decide_eq_true_eq, decide_eq_false_iff_not, Bool.not_eq_true', Bool.not_eq_false', Bool.not_true, Bool.not_false, Int.not_lt, Int.not_le, reduceCtorEq, Bool.true_eq_false, Bool.false_eq_true] at hguard); (try (exfalso; (try clear hK'); (try clear hK); omega)))) <;> ((try (simp +contextual only [Nat.reduceAdd, Nat.reduceSub, Nat.reduceMul, Nat.reduceLeDiff, Nat.reduceLT, Int.reduceToNat, Int.reduceLT, Int.reduceLE, Int.reduceNeg, reduceCtorEq, Nat.reduceEqDiff, go_sem])); (repeat' (first | ((with_reducible refine hK' _ _ ?_); clear hK'; clear K'; try simp only [aput, List.set_cons_succ, List.set_cons_zero, List.length_cons, List.length_nil, List.length_append, List.cons_append, List.nil_append, Nat.reduceAdd, List.append_nil]) | ((with_reducible first | refine ⟨_, _, ACall.h (h0) (by with_unfolding_all rfl), ?_⟩ | refine ⟨_, ACall.h (h0) (by with_unfolding_all rfl), ?_⟩ | refine ⟨_, _, ACall.hb (h0) (by with_unfolding_all rfl) (by with_unfolding_all rfl), ?_⟩ | refine ⟨_, ACall.hb (h0) (by with_unfolding_all rfl) (by with_unfolding_all rfl), ?_⟩ | refine ⟨_, _, ACall.h (hsz) (by with_unfolding_all rfl), ?_⟩ | refine ⟨_, ACall.h (hsz) (by with_unfolding_all rfl), ?_⟩ | refine ⟨_, _, ACall.hb (hsz) (by with_unfolding_all rfl) (by with_unfolding_all rfl), ?_⟩ | refine ⟨_, ACall.hb (hsz) (by with_unfolding_all rfl) (by with_unfolding_all rfl), ?_⟩); (try simp +contextual only [Nat.reduceAdd, Nat.reduceSub, Nat.reduceMul, Nat.reduceLeDiff, Nat.reduceLT, Int.reduceToNat, Int.reduceLT, Int.reduceLE, Int.reduceNeg, reduceCtorEq, Nat.reduceEqDiff, go_sem])) | (with_reducible refine And.intro ?_ ?_) | ((with_reducible intro hpath); try first | (exfalso; (try clear hK'); (try clear hK); omega) | (exact absurd hpath (by assumption))) | ((with_reducible first | refine gi1 ?_ | refine gi2 ?_ | refine gn1 ?_ | refine gn2 ?_ | refine gi3 ?_ | refine gn3 ?_ | refine gnot ?_); omega) | (with_reducible exact True.intro) | ((refine hK' _ _ ?_); clear hK'; clear K'; try simp only [aput, List.set_cons_succ, List.set_cons_zero, List.length_cons, List.length_nil, List.length_append, List.cons_append, List.nil_append, Nat.reduceAdd, List.append_nil]))); (try simp only [aput, List.set_cons_succ, List.set_cons_zero, List.length_cons, List.length_nil, List.length_append, List.cons_append, List.nil_append, Nat.reduceAdd, List.append_nil]))))
    | (with_reducible refine AWp.seq ?_)
    | (with_reducible refine AWp.block ?_)
    | (with_reducible refine AWp.skip ?_)
    | (with_reducible refine AWp.ret ?_)
    | (with_reducible refine AWp.exit ?_)
    | (refine AWp.cond _ rfl (fun hcond => ?_) (fun hcond => ?_) <;> first | (simp only [reduceCtorEq, Bool.true_eq_false, Bool.false_eq_true] at hcond; done) | (simp only [decide_eq_true_eq, decide_eq_false_iff_not, Bool.not_eq_true', Bool.not_eq_false', Int.not_lt, Int.not_le] at hcond; try (exfalso; omega)) | skip)
    | (with_reducible refine AThen.n ?_)
    | (with_reducible refine AThen.r ?_)
    | (with_reducible refine AThen.e ?_)
    | (with_reducible refine AInBlock.n ?_)
    | (with_reducible refine AInBlock.r ?_)
    | (with_reducible refine AInBlock.hit ?_)
    | (with_reducible refine AInBlock.miss (by with_unfolding_all decide) ?_))
  refine AWp.loopx (α := Nat) (fun v => (⟨(.c .any : AVal) :: (.c (.ptr 0 0) : AVal) :: (.c (.bool false) : AVal) :: (.c (.int .i64 (endsL g.es).length) : AVal) :: (.c (.int .i64 0) : AVal) :: (.c (.int .i64 (sumR (fun v => valL v g.es + 2 * cntL g.es v v) v)) : AVal) :: (.c .any : AVal) :: (.c .any : AVal) :: (.c .any : AVal) :: (.c .any : AVal) :: (.c .any : AVal) :: (.c .any : AVal) :: (.c .any : AVal) :: (.c .any : AVal) :: (.c .any : AVal) :: (.c .any : AVal) :: (.c .any : AVal) :: (.c .any : AVal) :: (.c .any : AVal) :: (.c .any : AVal) :: (.c .any : AVal) :: (.c .any : AVal) :: (.c .any : AVal) :: (.c .any : AVal) :: (.c .any : AVal) :: (.c (.int .i64 g.n) : AVal) :: (.c (.int .i64 (v : Int)) : AVal) :: (.c .any : AVal) :: (.c .any : AVal) :: (.c .any : AVal) :: (.c .any : AVal) :: (.c .any : AVal) :: (.c .any : AVal) :: (.c .any : AVal) :: (.c .any : AVal) :: (.c .any : AVal) :: (.c .any : AVal) :: (.c .any : AVal) :: (.c .any : AVal) :: (.c .any : AVal) :: (.c .any : AVal) :: (.c .any : AVal) :: (.c .any : AVal) :: (.c .any : AVal) :: (.c .any : AVal) :: (.c .any : AVal) :: (.c .any : AVal) :: (.c .any : AVal) :: (.c .any : AVal) :: (.c .any : AVal) :: (.c .any : AVal) :: (.c .any : AVal) :: (.c .any : AVal) :: (.c .any : AVal) :: (.c .any : AVal) :: (.c .any : AVal) :: (.c .any : AVal) :: (.c .any : AVal) :: (.c .any : AVal) :: (.c .any : AVal) :: (.c .any : AVal) :: (.c .any : AVal) :: (.c .any : AVal) :: (.c .any : AVal) :: (.c .any : AVal) :: (.c .any : AVal) :: (.c .any : AVal) :: (.c .any : AVal) :: (.c .any : AVal) :: (.c .any : AVal) :: (.c .any : AVal) :: (.c .any : AVal) :: (.c .any : AVal) :: (.c .any : AVal) :: (.c .any : AVal) :: (.c .any : AVal) :: (.c .any : AVal) :: (.c .any : AVal) :: (.c .any : AVal) :: (.c .any : AVal) :: (.c .any : AVal) :: (.c .any : AVal) :: (.c .any : AVal) :: (.c .any : AVal) :: (.c .any : AVal) :: (.c .any : AVal) :: (.c .any : AVal) :: (.c .any : AVal) :: (.c .any : AVal) :: (.c .any : AVal) :: (.c .any : AVal) :: (.c .any : AVal) :: (.c .any : AVal) :: (.c .any : AVal) :: (.c .any : AVal) :: (.c .any : AVal) :: (.c .any : AVal) :: (.c .any : AVal) :: (.c .any : AVal) :: (.c .any : AVal) :: [], [.box [.int .i64 g.n, .slice (eRows g.es) .none]]⟩ : St)) (fun v => v ≤ n) (fun v => n - v) (0) (Weak.head (m := 1) (by omega) [false, true, true, true, true, true, false, false, false, false, false, false, false, false, false, false, false, false, false, false, false, false, false, false, false, true, true, false, false, false, false, false, false, false, false, false, false, false, false, false, false, false, false, false, false, false, false, false, false, false, false, false, false, false, false, false, false, false, false, false, false, false, false, false, false, false, false, false, false, false, false, false, false, false, false, false, false, false, false, false, false, false, false, false, false, false, false, false, false, false, false, false, false, false, false, false, false, false, false, false] (by first | rfl | (simp [mask]; done) | (simp [mask] <;> omega)) (by first | rfl | (simp; done) | (simp <;> omega)) (by (repeat' (first | exact valsIn_nil _ | exact blksIn_nil _ | exact cellsIn_nil _ | refine valsIn_cons ?_ ?_ | refine blksIn_cons ?_ ?_ | refine cellsIn_cons ?_ ?_ | exact True.intro | (show _ < _; omega) | exact cellsIn_map (fun _ => True.intro) | (intro c hc; cases hc; done) | (intro c hc; simp only [List.mem_cons, List.not_mem_nil, or_false] at hc; subst hc; exact True.intro)))) (by (repeat' (first | exact valsIn_nil _ | exact blksIn_nil _ | exact cellsIn_nil _ | refine valsIn_cons ?_ ?_ | refine blksIn_cons ?_ ?_ | refine cellsIn_cons ?_ ?_ | exact True.intro | (show _ < _; omega) | exact cellsIn_map (fun _ => True.intro) | (intro c hc; cases hc; done) | (intro c hc; simp only [List.mem_cons, List.not_mem_nil, or_false] at hc; subst hc; exact True.intro))))) ?_ (fun v hI => ?_)
  · exact Nat.zero_le _
  · have hvn : v ≤ n := hI
    clear hI
    by_cases hlt : v < n
    · have hltI : (v : Int) < g.n := by omega
      have hde : ACall Try.prog 34 [tG g, tint v] (.tup [tint (degL v (endsL g.es)), tint 0]) := by
        have := Degree_ok g v (by omega); rwa [at_one hR hlt, if_neg (by decide)] at this
      have hva : ACall Try.prog 40 [tG g, tint v] (.tup [tint (valL v g.es), tint 0]) := by
        have := Valence_ok g v (by omega); rwa [at_one hR hlt, if_neg (by decide)] at this
      have hbe : ∀ u : Nat, u < n → ACall Try.prog 42 [tG g, tint v, tint u] (.tup [tint (cntL g.es (min (v : Int) u) (max (v : Int) u)), tint 0]) := fun u hu => by
        have := Between_ok g v u (by omega); rwa [at_two hR hlt hu, if_neg (by decide)] at this
      have hBv := hB v
      have hCv := hC v
      have hvbv := hvb v
      have hcbv := hcb v v
      have hSbv := hSb v hvn
      have hSn : sumR (fun v => valL v g.es + 2 * cntL g.es v v) (v + 1) = sumR (fun v => valL v g.es + 2 * cntL g.es v v) v + (valL v g.es + 2 * cntL g.es v v) := rfl
      have hNb : ∀ u, u ≤ n → 0 ≤ sumR (fun u => cntL g.es (min (v : Int) u) (max (v : Int) u)) u ∧ sumR (fun u => cntL g.es (min (v : Int) u) (max (v : Int) u)) u ≤ 600 := fun u hu => by
        have := sumR_bound (f := fun u => cntL g.es (min (v : Int) u) (max (v : Int) u)) (n := u) (k := 50) (fun i _ => hcb _ _)
        omega
      generalize sumR (fun v => valL v g.es + 2 * cntL g.es v v) v = S at *
      generalize hdd : degL v (endsL g.es) = d at *
      repeat' (first
        | (with_reducible refine AWp.seq_region (fun K hK => ?_))
        | (with_reducible refine AWp.last_region (fun K hK => ?_))
        | (with_reducible refine AWp.seq_draw (by with_unfolding_all kernel_rfl) (fun K hK => ?_))
        | (with_reducible refine AWp.last_draw (by with_unfolding_all kernel_rfl) (fun K hK => ?_))
        | ((with_reducible first | refine vcEnd ?_ | refine vcEndD ?_ | refine vcEndM ?_); refine hK _ _ ?_; clear hK; clear K)
        | ((with_reducible first | refine vcStepN (by rfl) (by with_unfolding_all rfl) ?_ | refine vcStepND (by rfl) (by with_unfolding_all rfl) ?_ | refine vcStepNM (by rfl) (by with_unfolding_all rfl) ?_); try simp only [aput, List.set_cons_succ, List.set_cons_zero, List.length_cons, List.length_nil, List.length_append, List.cons_append, List.nil_append, Nat.reduceAdd, List.append_nil])
        | ((with_reducible first | refine vcStep (by rfl) (fun K' hK' => ?_) | refine vcStepD (by rfl) (fun K' hK' => ?_) | refine vcStepM (by rfl) (fun K' hK' => ?_) | refine vcStepG (by rfl) (by with_unfolding_all rfl) (fun hguard K' hK' => ?_) (fun hguard => ?_) | refine vcStepGD (by rfl) (by with_unfolding_all rfl) (fun hguard K' hK' => ?_) (fun hguard => ?_) | refine vcStepGM (by rfl) (by with_unfolding_all rfl) (fun hguard K' hK' => ?_) (fun hguard => ?_)) <;> ((try (replace hguard := hguard; (try simp only [decide_eq_true_eq, decide_eq_false_iff_not, Bool.not_eq_true', Bool.not_eq_false', Bool.not_true, Bool.not_false, Int.not_lt, Int.not_le, reduceCtorEq, Bool.true_eq_false, Bool.false_eq_true] at hguard); (try (exfalso; (try clear hK'); (try clear hK); omega)))) <;> ((try (simp +contextual only [Nat.reduceAdd, Nat.reduceSub, Nat.reduceMul, Nat.reduceLeDiff, Nat.reduceLT, Int.reduceToNat, Int.reduceLT, Int.reduceLE, Int.reduceNeg, reduceCtorEq, Nat.reduceEqDiff, go_sem, hltI])); (repeat' (first | ((with_reducible refine hK' _ _ ?_); clear hK'; clear K'; try simp only [aput, List.set_cons_succ, List.set_cons_zero, List.length_cons, List.length_nil, List.length_append, List.cons_append, List.nil_append, Nat.reduceAdd, List.append_nil]) | ((with_reducible first | refine ⟨_, _, ACall.h (hde) (by with_unfolding_all rfl), ?_⟩ | refine ⟨_, ACall.h (hde) (by with_unfolding_all rfl), ?_⟩ | refine ⟨_, _, ACall.hb (hde) (by with_unfolding_all rfl) (by with_unfolding_all rfl), ?_⟩ | refine ⟨_, ACall.hb (hde) (by with_unfolding_all rfl) (by with_unfolding_all rfl), ?_⟩ | refine ⟨_, _, ACall.h (hva) (by with_unfolding_all rfl), ?_⟩ | refine ⟨_, ACall.h (hva) (by with_unfolding_all rfl), ?_⟩ | refine ⟨_, _, ACall.hb (hva) (by with_unfolding_all rfl) (by with_unfolding_all rfl), ?_⟩ | refine ⟨_, ACall.hb (hva) (by with_unfolding_all rfl) (by with_unfolding_all rfl), ?_⟩); (try simp +contextual only [Nat.reduceAdd, Nat.reduceSub, Nat.reduceMul, Nat.reduceLeDiff, Nat.reduceLT, Int.reduceToNat, Int.reduceLT, Int.reduceLE, Int.reduceNeg, reduceCtorEq, Nat.reduceEqDiff, go_sem, hltI])) | (with_reducible refine And.intro ?_ ?_) | ((with_reducible intro hpath); try first | (exfalso; (try clear hK'); (try clear hK); omega) | (exact absurd hpath (by assumption))) | ((with_reducible first | refine gi1 ?_ | refine gi2 ?_ | refine gn1 ?_ | refine gn2 ?_ | refine gi3 ?_ | refine gn3 ?_ | refine gnot ?_); omega) | (with_reducible exact True.intro) | ((refine hK' _ _ ?_); clear hK'; clear K'; try simp only [aput, List.set_cons_succ, List.set_cons_zero, List.length_cons, List.length_nil, List.length_append, List.cons_append, List.nil_append, Nat.reduceAdd, List.append_nil]))); (try simp only [aput, List.set_cons_succ, List.set_cons_zero, List.length_cons, List.length_nil, List.length_append, List.cons_append, List.nil_append, Nat.reduceAdd, List.append_nil]))))
        | (with_reducible refine AWp.seq ?_)
        | (with_reducible refine AWp.block ?_)
        | (with_reducible refine AWp.skip ?_)
        | (with_reducible refine AWp.ret ?_)
        | (with_reducible refine AWp.exit ?_)
        | (refine AWp.cond _ rfl (fun hcond => ?_) (fun hcond => ?_) <;> first | (simp only [reduceCtorEq, Bool.true_eq_false, Bool.false_eq_true] at hcond; done) | (simp only [decide_eq_true_eq, decide_eq_false_iff_not, Bool.not_eq_true', Bool.not_eq_false', Int.not_lt, Int.not_le] at hcond; try (exfalso; omega)) | skip)
        | (with_reducible refine AThen.n ?_)
        | (with_reducible refine AThen.r ?_)
        | (with_reducible refine AThen.e ?_)
        | (with_reducible refine AInBlock.n ?_)
        | (with_reducible refine AInBlock.r ?_)
        | (with_reducible refine AInBlock.hit ?_)
        | (with_reducible refine AInBlock.miss (by with_unfolding_all decide) ?_))
      refine AWp.loopx (α := Nat) (fun u => (⟨(.c .any : AVal) :: (.c (.ptr 0 0) : AVal) :: (.c (.bool false) : AVal) :: (.c (.int .i64 (endsL g.es).length) : AVal) :: (.c (.int .i64 0) : AVal) :: (.c (.int .i64 (hsS S (cntL g.es v v) v u)) : AVal) :: (.c (.int .i64 (v : Int)) : AVal) :: (.c (.int .i64 (hsD d (cntL g.es v v) v u)) : AVal) :: (.c (.int .i64 0) : AVal) :: (.c (.int .i64 (valL v g.es)) : AVal) :: (.c (.int .i64 0) : AVal) :: (.c (.int .i64 (hsN g.es v u)) : AVal) :: (.c .any : AVal) :: (.c .any : AVal) :: (.c .any : AVal) :: (.c .any : AVal) :: (.c .any : AVal) :: (.c .any : AVal) :: (.c .any : AVal) :: (.c .any : AVal) :: (.c .any : AVal) :: (.c .any : AVal) :: (.c .any : AVal) :: (.c .any : AVal) :: (.c .any : AVal) :: (.c (.int .i64 g.n) : AVal) :: (.c (.int .i64 (v : Int)) : AVal) :: (.c .any : AVal) :: (.c .any : AVal) :: (.c .any : AVal) :: (.c .any : AVal) :: (.c .any : AVal) :: (.c .any : AVal) :: (.c .any : AVal) :: (.c .any : AVal) :: (.c .any : AVal) :: (.c .any : AVal) :: (.c .any : AVal) :: (.c .any : AVal) :: (.c .any : AVal) :: (.c .any : AVal) :: (.c .any : AVal) :: (.c (.int .i64 g.n) : AVal) :: (.c (.int .i64 (u : Int)) : AVal) :: (.c .any : AVal) :: (.c .any : AVal) :: (.c .any : AVal) :: (.c .any : AVal) :: (.c .any : AVal) :: (.c .any : AVal) :: (.c .any : AVal) :: (.c .any : AVal) :: (.c .any : AVal) :: (.c .any : AVal) :: (.c .any : AVal) :: (.c .any : AVal) :: (.c .any : AVal) :: (.c .any : AVal) :: (.c .any : AVal) :: (.c .any : AVal) :: (.c .any : AVal) :: (.c .any : AVal) :: (.c .any : AVal) :: (.c .any : AVal) :: (.c .any : AVal) :: (.c .any : AVal) :: (.c .any : AVal) :: (.c .any : AVal) :: (.c .any : AVal) :: (.c .any : AVal) :: (.c .any : AVal) :: (.c .any : AVal) :: (.c .any : AVal) :: (.c .any : AVal) :: (.c .any : AVal) :: (.c .any : AVal) :: (.c .any : AVal) :: (.c .any : AVal) :: (.c .any : AVal) :: (.c .any : AVal) :: (.c .any : AVal) :: (.c .any : AVal) :: (.c .any : AVal) :: (.c .any : AVal) :: (.c .any : AVal) :: (.c .any : AVal) :: (.c .any : AVal) :: (.c .any : AVal) :: (.c .any : AVal) :: (.c .any : AVal) :: (.c .any : AVal) :: (.c .any : AVal) :: (.c .any : AVal) :: (.c .any : AVal) :: (.c .any : AVal) :: (.c .any : AVal) :: (.c .any : AVal) :: (.c .any : AVal) :: (.c .any : AVal) :: (.c .any : AVal) :: [], [.box [.int .i64 g.n, .slice (eRows g.es) .none]]⟩ : St)) (fun u => u ≤ n) (fun u => n - u) (0) (Weak.head (m := 1) (by omega) [false, true, true, true, true, true, true, true, true, true, true, true, false, false, false, false, false, false, false, false, false, false, false, false, false, true, true, false, false, false, false, false, false, false, false, false, false, false, false, false, false, false, true, true, false, false, false, false, false, false, false, false, false, false, false, false, false, false, false, false, false, false, false, false, false, false, false, false, false, false, false, false, false, false, false, false, false, false, false, false, false, false, false, false, false, false, false, false, false, false, false, false, false, false, false, false, false, false, false, false] (by first | rfl | (simp [mask]; done) | (simp [mask] <;> omega)) (by first | rfl | (simp; done) | (simp <;> omega)) (by (repeat' (first | exact valsIn_nil _ | exact blksIn_nil _ | exact cellsIn_nil _ | refine valsIn_cons ?_ ?_ | refine blksIn_cons ?_ ?_ | refine cellsIn_cons ?_ ?_ | exact True.intro | (show _ < _; omega) | exact cellsIn_map (fun _ => True.intro) | (intro c hc; cases hc; done) | (intro c hc; simp only [List.mem_cons, List.not_mem_nil, or_false] at hc; subst hc; exact True.intro)))) (by (repeat' (first | exact valsIn_nil _ | exact blksIn_nil _ | exact cellsIn_nil _ | refine valsIn_cons ?_ ?_ | refine blksIn_cons ?_ ?_ | refine cellsIn_cons ?_ ?_ | exact True.intro | (show _ < _; omega) | exact cellsIn_map (fun _ => True.intro) | (intro c hc; cases hc; done) | (intro c hc; simp only [List.mem_cons, List.not_mem_nil, or_false] at hc; subst hc; exact True.intro))))) ?_ (fun u hI => ?_)
      · exact Nat.zero_le _
      · have hun : u ≤ n := hI
        clear hI
        by_cases hltu : u < n
        · have hltuI : (u : Int) < g.n := by omega
          have hb := hbe u hltu
          have hcu := hcb (min (v : Int) u) (max (v : Int) u)
          have hNu := hNb u hun
          have hN1 : sumR (fun u => cntL g.es (min (v : Int) u) (max (v : Int) u)) (u + 1) = sumR (fun u => cntL g.es (min (v : Int) u) (max (v : Int) u)) u + cntL g.es (min (v : Int) u) (max (v : Int) u) := rfl
          by_cases huv : u = v
          · subst huv
            have e1 : hsD d (cntL g.es u u) u u = d := by unfold hsD; rw [hs1_eq.2]; omega
            have e2 : hsN g.es u u = sumR (fun v => cntL g.es (min (u : Int) v) (max (u : Int) v)) u := by unfold hsN; rw [hs1_eq.2]; omega
            have e3 : hsS S (cntL g.es u u) u u = S := by unfold hsS; rw [hs1_eq.2]; omega
            have f1 : hsD d (cntL g.es u u) u (u + 1) = d - 2 * cntL g.es u u := by unfold hsD; rw [hs1_eq.1]
            have f2 : hsN g.es u (u + 1) = sumR (fun v => cntL g.es (min (u : Int) v) (max (u : Int) v)) u + cntL g.es u u - cntL g.es u u := by unfold hsN; rw [hs1_eq.1, hN1, Int.min_self, Int.max_self]
            have f3 : hsS S (cntL g.es u u) u (u + 1) = S + 2 * cntL g.es u u := by unfold hsS; rw [hs1_eq.1]
            rw [e1, e2, e3]
            rw [Int.min_self, Int.max_self] at hb
            generalize sumR (fun v => cntL g.es (min (u : Int) v) (max (u : Int) v)) u = N at *
            generalize hk : cntL g.es u u = k at *
            repeat' (first
              | (with_reducible refine AWp.seq_region (fun K hK => ?_))
              | (with_reducible refine AWp.last_region (fun K hK => ?_))
              | (with_reducible refine AWp.seq_draw (by with_unfolding_all kernel_rfl) (fun K hK => ?_))
              | (with_reducible refine AWp.last_draw (by with_unfolding_all kernel_rfl) (fun K hK => ?_))
              | ((with_reducible first | refine vcEnd ?_ | refine vcEndD ?_ | refine vcEndM ?_); refine hK _ _ ?_; clear hK; clear K)
              | ((with_reducible first | refine vcStepN (by rfl) (by with_unfolding_all rfl) ?_ | refine vcStepND (by rfl) (by with_unfolding_all rfl) ?_ | refine vcStepNM (by rfl) (by with_unfolding_all rfl) ?_); try simp only [aput, List.set_cons_succ, List.set_cons_zero, List.length_cons, List.length_nil, List.length_append, List.cons_append, List.nil_append, Nat.reduceAdd, List.append_nil])
              | ((with_reducible first | refine vcStep (by rfl) (fun K' hK' => ?_) | refine vcStepD (by rfl) (fun K' hK' => ?_) | refine vcStepM (by rfl) (fun K' hK' => ?_) | refine vcStepG (by rfl) (by with_unfolding_all rfl) (fun hguard K' hK' => ?_) (fun hguard => ?_) | refine vcStepGD (by rfl) (by with_unfolding_all rfl) (fun hguard K' hK' => ?_) (fun hguard => ?_) | refine vcStepGM (by rfl) (by with_unfolding_all rfl) (fun hguard K' hK' => ?_) (fun hguard => ?_)) <;> ((try (replace hguard := hguard; (try simp only [decide_eq_true_eq, decide_eq_false_iff_not, Bool.not_eq_true', Bool.not_eq_false', Bool.not_true, Bool.not_false, Int.not_lt, Int.not_le, reduceCtorEq, Bool.true_eq_false, Bool.false_eq_true] at hguard); (try (exfalso; (try clear hK'); (try clear hK); omega)))) <;> ((try (simp +contextual only [Nat.reduceAdd, Nat.reduceSub, Nat.reduceMul, Nat.reduceLeDiff, Nat.reduceLT, Int.reduceToNat, Int.reduceLT, Int.reduceLE, Int.reduceNeg, reduceCtorEq, Nat.reduceEqDiff, go_sem, hltuI])); (repeat' (first | ((with_reducible refine hK' _ _ ?_); clear hK'; clear K'; try simp only [aput, List.set_cons_succ, List.set_cons_zero, List.length_cons, List.length_nil, List.length_append, List.cons_append, List.nil_append, Nat.reduceAdd, List.append_nil]) | ((with_reducible first | refine ⟨_, _, ACall.h (hb) (by with_unfolding_all rfl), ?_⟩ | refine ⟨_, ACall.h (hb) (by with_unfolding_all rfl), ?_⟩ | refine ⟨_, _, ACall.hb (hb) (by with_unfolding_all rfl) (by with_unfolding_all rfl), ?_⟩ | refine ⟨_, ACall.hb (hb) (by with_unfolding_all rfl) (by with_unfolding_all rfl), ?_⟩); (try simp +contextual only [Nat.reduceAdd, Nat.reduceSub, Nat.reduceMul, Nat.reduceLeDiff, Nat.reduceLT, Int.reduceToNat, Int.reduceLT, Int.reduceLE, Int.reduceNeg, reduceCtorEq, Nat.reduceEqDiff, go_sem, hltuI])) | (with_reducible refine And.intro ?_ ?_) | ((with_reducible intro hpath); try first | (exfalso; (try clear hK'); (try clear hK); omega) | (exact absurd hpath (by assumption))) | ((with_reducible first | refine gi1 ?_ | refine gi2 ?_ | refine gn1 ?_ | refine gn2 ?_ | refine gi3 ?_ | refine gn3 ?_ | refine gnot ?_); omega) | (with_reducible exact True.intro) | ((refine hK' _ _ ?_); clear hK'; clear K'; try simp only [aput, List.set_cons_succ, List.set_cons_zero, List.length_cons, List.length_nil, List.length_append, List.cons_append, List.nil_append, Nat.reduceAdd, List.append_nil]))); (try simp only [aput, List.set_cons_succ, List.set_cons_zero, List.length_cons, List.length_nil, List.length_append, List.cons_append, List.nil_append, Nat.reduceAdd, List.append_nil]))))
              | (with_reducible refine AWp.seq ?_)
              | (with_reducible refine AWp.block ?_)
              | (with_reducible refine AWp.skip ?_)
              | (with_reducible refine AWp.ret ?_)
              | (with_reducible refine AWp.exit ?_)
              | (refine AWp.cond _ rfl (fun hcond => ?_) (fun hcond => ?_) <;> first | (simp only [reduceCtorEq, Bool.true_eq_false, Bool.false_eq_true] at hcond; done) | (simp only [decide_eq_true_eq, decide_eq_false_iff_not, Bool.not_eq_true', Bool.not_eq_false', Int.not_lt, Int.not_le] at hcond; try (exfalso; omega)) | skip)
              | (with_reducible refine AThen.n ?_)
              | (with_reducible refine AThen.r ?_)
              | (with_reducible refine AThen.e ?_)
              | (with_reducible refine AInBlock.n ?_)
              | (with_reducible refine AInBlock.r ?_)
              | (with_reducible refine AInBlock.hit ?_)
              | (with_reducible refine AInBlock.miss (by with_unfolding_all decide) ?_))
            refine ⟨u + 1, Weak.head (m := 1) (by omega) [false, true, true, true, true, true, true, true, true, true, true, true, false, false, false, false, false, false, false, false, false, false, false, false, false, true, true, false, false, false, false, false, false, false, false, false, false, false, false, false, false, false, true, true, false, false, false, false, false, false, false, false, false, false, false, false, false, false, false, false, false, false, false, false, false, false, false, false, false, false, false, false, false, false, false, false, false, false, false, false, false, false, false, false, false, false, false, false, false, false, false, false, false, false, false, false, false, false, false, false] (by first | rfl | (simp [mask, f1, f2, f3]; done) | (simp [mask, f1, f2, f3] <;> simp_all <;> omega)) (by first | rfl | (simp [mask, f1, f2, f3]; done) | (simp [mask, f1, f2, f3] <;> simp_all <;> omega)) (by (repeat' (first | exact valsIn_nil _ | exact blksIn_nil _ | exact cellsIn_nil _ | refine valsIn_cons ?_ ?_ | refine blksIn_cons ?_ ?_ | refine cellsIn_cons ?_ ?_ | exact True.intro | (show _ < _; omega) | exact cellsIn_map (fun _ => True.intro) | (intro c hc; cases hc; done) | (intro c hc; simp only [List.mem_cons, List.not_mem_nil, or_false] at hc; subst hc; exact True.intro)))) (by (repeat' (first | exact valsIn_nil _ | exact blksIn_nil _ | exact cellsIn_nil _ | refine valsIn_cons ?_ ?_ | refine blksIn_cons ?_ ?_ | refine cellsIn_cons ?_ ?_ | exact True.intro | (show _ < _; omega) | exact cellsIn_map (fun _ => True.intro) | (intro c hc; cases hc; done) | (intro c hc; simp only [List.mem_cons, List.not_mem_nil, or_false] at hc; subst hc; exact True.intro)))), ?_, ?_⟩
            · exact hltu
            · omega
          · have e1 : hsD d (cntL g.es v v) v (u + 1) = hsD d (cntL g.es v v) v u := by unfold hsD; rw [hs1_ne huv]
            have e2 : hsN g.es v (u + 1) = hsN g.es v u + cntL g.es (min (v : Int) u) (max (v : Int) u) := by unfold hsN; rw [hs1_ne huv, hN1]; omega
            have e3 : hsS S (cntL g.es v v) v (u + 1) = hsS S (cntL g.es v v) v u := by unfold hsS; rw [hs1_ne huv]
            have hNn : -50 ≤ hsN g.es v u ∧ hsN g.es v u ≤ 600 := by unfold hsN hs1; split <;> omega
            generalize hsN g.es v u = N at *
            generalize hsD d (cntL g.es v v) v u = D at *
            generalize hsS S (cntL g.es v v) v u = T at *
            generalize cntL g.es (min (v : Int) u) (max (v : Int) u) = k at *
            have hne : ¬ ((u : Int) = v) := by omega
            repeat' (first
              | (with_reducible refine AWp.seq_region (fun K hK => ?_))
              | (with_reducible refine AWp.last_region (fun K hK => ?_))
              | (with_reducible refine AWp.seq_draw (by with_unfolding_all kernel_rfl) (fun K hK => ?_))
              | (with_reducible refine AWp.last_draw (by with_unfolding_all kernel_rfl) (fun K hK => ?_))
              | ((with_reducible first | refine vcEnd ?_ | refine vcEndD ?_ | refine vcEndM ?_); refine hK _ _ ?_; clear hK; clear K)
              | ((with_reducible first | refine vcStepN (by rfl) (by with_unfolding_all rfl) ?_ | refine vcStepND (by rfl) (by with_unfolding_all rfl) ?_ | refine vcStepNM (by rfl) (by with_unfolding_all rfl) ?_); try simp only [aput, List.set_cons_succ, List.set_cons_zero, List.length_cons, List.length_nil, List.length_append, List.cons_append, List.nil_append, Nat.reduceAdd, List.append_nil])
              | ((with_reducible first | refine vcStep (by rfl) (fun K' hK' => ?_) | refine vcStepD (by rfl) (fun K' hK' => ?_) | refine vcStepM (by rfl) (fun K' hK' => ?_) | refine vcStepG (by rfl) (by with_unfolding_all rfl) (fun hguard K' hK' => ?_) (fun hguard => ?_) | refine vcStepGD (by rfl) (by with_unfolding_all rfl) (fun hguard K' hK' => ?_) (fun hguard => ?_) | refine vcStepGM (by rfl) (by with_unfolding_all rfl) (fun hguard K' hK' => ?_) (fun hguard => ?_)) <;> ((try (replace hguard := hguard; (try simp only [decide_eq_true_eq, decide_eq_false_iff_not, Bool.not_eq_true', Bool.not_eq_false', Bool.not_true, Bool.not_false, Int.not_lt, Int.not_le, reduceCtorEq, Bool.true_eq_false, Bool.false_eq_true] at hguard); (try (exfalso; (try clear hK'); (try clear hK); omega)))) <;> ((try (simp +contextual only [Nat.reduceAdd, Nat.reduceSub, Nat.reduceMul, Nat.reduceLeDiff, Nat.reduceLT, Int.reduceToNat, Int.reduceLT, Int.reduceLE, Int.reduceNeg, reduceCtorEq, Nat.reduceEqDiff, go_sem, hltuI, hne])); (repeat' (first | ((with_reducible refine hK' _ _ ?_); clear hK'; clear K'; try simp only [aput, List.set_cons_succ, List.set_cons_zero, List.length_cons, List.length_nil, List.length_append, List.cons_append, List.nil_append, Nat.reduceAdd, List.append_nil]) | ((with_reducible first | refine ⟨_, _, ACall.h (hb) (by with_unfolding_all rfl), ?_⟩ | refine ⟨_, ACall.h (hb) (by with_unfolding_all rfl), ?_⟩ | refine ⟨_, _, ACall.hb (hb) (by with_unfolding_all rfl) (by with_unfolding_all rfl), ?_⟩ | refine ⟨_, ACall.hb (hb) (by with_unfolding_all rfl) (by with_unfolding_all rfl), ?_⟩); (try simp +contextual only [Nat.reduceAdd, Nat.reduceSub, Nat.reduceMul, Nat.reduceLeDiff, Nat.reduceLT, Int.reduceToNat, Int.reduceLT, Int.reduceLE, Int.reduceNeg, reduceCtorEq, Nat.reduceEqDiff, go_sem, hltuI, hne])) | (with_reducible refine And.intro ?_ ?_) | ((with_reducible intro hpath); try first | (exfalso; (try clear hK'); (try clear hK); omega) | (exact absurd hpath (by assumption))) | ((with_reducible first | refine gi1 ?_ | refine gi2 ?_ | refine gn1 ?_ | refine gn2 ?_ | refine gi3 ?_ | refine gn3 ?_ | refine gnot ?_); omega) | (with_reducible exact True.intro) | ((refine hK' _ _ ?_); clear hK'; clear K'; try simp only [aput, List.set_cons_succ, List.set_cons_zero, List.length_cons, List.length_nil, List.length_append, List.cons_append, List.nil_append, Nat.reduceAdd, List.append_nil]))); (try simp only [aput, List.set_cons_succ, List.set_cons_zero, List.length_cons, List.length_nil, List.length_append, List.cons_append, List.nil_append, Nat.reduceAdd, List.append_nil]))))
              | (with_reducible refine AWp.seq ?_)
              | (with_reducible refine AWp.block ?_)
              | (with_reducible refine AWp.skip ?_)
              | (with_reducible refine AWp.ret ?_)
              | (with_reducible refine AWp.exit ?_)
              | (refine AWp.cond _ rfl (fun hcond => ?_) (fun hcond => ?_) <;> first | (simp only [reduceCtorEq, Bool.true_eq_false, Bool.false_eq_true] at hcond; done) | (simp only [decide_eq_true_eq, decide_eq_false_iff_not, Bool.not_eq_true', Bool.not_eq_false', Int.not_lt, Int.not_le] at hcond; try (exfalso; omega)) | skip)
              | (with_reducible refine AThen.n ?_)
              | (with_reducible refine AThen.r ?_)
              | (with_reducible refine AThen.e ?_)
              | (with_reducible refine AInBlock.n ?_)
              | (with_reducible refine AInBlock.r ?_)
              | (with_reducible refine AInBlock.hit ?_)
              | (with_reducible refine AInBlock.miss (by with_unfolding_all decide) ?_))
            refine ⟨u + 1, Weak.head (m := 1) (by omega) [false, true, true, true, true, true, true, true, true, true, true, true, false, false, false, false, false, false, false, false, false, false, false, false, false, true, true, false, false, false, false, false, false, false, false, false, false, false, false, false, false, false, true, true, false, false, false, false, false, false, false, false, false, false, false, false, false, false, false, false, false, false, false, false, false, false, false, false, false, false, false, false, false, false, false, false, false, false, false, false, false, false, false, false, false, false, false, false, false, false, false, false, false, false, false, false, false, false, false, false] (by first | rfl | (simp [mask, e1, e2, e3]; done) | (simp [mask, e1, e2, e3] <;> simp_all <;> omega)) (by first | rfl | (simp [mask, e1, e2, e3]; done) | (simp [mask, e1, e2, e3] <;> simp_all <;> omega)) (by (repeat' (first | exact valsIn_nil _ | exact blksIn_nil _ | exact cellsIn_nil _ | refine valsIn_cons ?_ ?_ | refine blksIn_cons ?_ ?_ | refine cellsIn_cons ?_ ?_ | exact True.intro | (show _ < _; omega) | exact cellsIn_map (fun _ => True.intro) | (intro c hc; cases hc; done) | (intro c hc; simp only [List.mem_cons, List.not_mem_nil, or_false] at hc; subst hc; exact True.intro)))) (by (repeat' (first | exact valsIn_nil _ | exact blksIn_nil _ | exact cellsIn_nil _ | refine valsIn_cons ?_ ?_ | refine blksIn_cons ?_ ?_ | refine cellsIn_cons ?_ ?_ | exact True.intro | (show _ < _; omega) | exact cellsIn_map (fun _ => True.intro) | (intro c hc; cases hc; done) | (intro c hc; simp only [List.mem_cons, List.not_mem_nil, or_false] at hc; subst hc; exact True.intro)))), ?_, ?_⟩
            · exact hltu
            · omega
        · have eu : u = n := by omega
          subst eu
          have e1 : hsD d (cntL g.es v v) v u = valL v g.es := by unfold hsD; rw [show hs1 (cntL g.es v v) v u = cntL g.es v v by unfold hs1; exact if_pos hlt]; omega
          have e2 : hsN g.es v u = valL v g.es := by unfold hsN; rw [show hs1 (cntL g.es v v) v u = cntL g.es v v by unfold hs1; exact if_pos hlt]; omega
          have e3 : hsS S (cntL g.es v v) v u = S + 2 * cntL g.es v v := by unfold hsS; rw [show hs1 (cntL g.es v v) v u = cntL g.es v v by unfold hs1; exact if_pos hlt]
          have hnl : ¬ ((u : Int) < g.n) := by omega
          rw [e1, e2, e3]
          have hSn2 : sumR (fun v => valL v g.es + 2 * cntL g.es v v) (v + 1) = S + 2 * cntL g.es v v + valL v g.es := by omega
          generalize valL v g.es = w at *
          generalize cntL g.es v v = k at *
          repeat' (first
            | (with_reducible refine AWp.seq_region (fun K hK => ?_))
            | (with_reducible refine AWp.last_region (fun K hK => ?_))
            | (with_reducible refine AWp.seq_draw (by with_unfolding_all kernel_rfl) (fun K hK => ?_))
            | (with_reducible refine AWp.last_draw (by with_unfolding_all kernel_rfl) (fun K hK => ?_))
            | ((with_reducible first | refine vcEnd ?_ | refine vcEndD ?_ | refine vcEndM ?_); refine hK _ _ ?_; clear hK; clear K)
            | ((with_reducible first | refine vcStepN (by rfl) (by with_unfolding_all rfl) ?_ | refine vcStepND (by rfl) (by with_unfolding_all rfl) ?_ | refine vcStepNM (by rfl) (by with_unfolding_all rfl) ?_); try simp only [aput, List.set_cons_succ, List.set_cons_zero, List.length_cons, List.length_nil, List.length_append, List.cons_append, List.nil_append, Nat.reduceAdd, List.append_nil])
            | ((with_reducible first | refine vcStep (by rfl) (fun K' hK' => ?_) | refine vcStepD (by rfl) (fun K' hK' => ?_) | refine vcStepM (by rfl) (fun K' hK' => ?_) | refine vcStepG (by rfl) (by with_unfolding_all rfl) (fun hguard K' hK' => ?_) (fun hguard => ?_) | refine vcStepGD (by rfl) (by with_unfolding_all rfl) (fun hguard K' hK' => ?_) (fun hguard => ?_) | refine vcStepGM (by rfl) (by with_unfolding_all rfl) (fun hguard K' hK' => ?_) (fun hguard => ?_)) <;> ((try (replace hguard := hguard; (try simp only [decide_eq_true_eq, decide_eq_false_iff_not, Bool.not_eq_true', Bool.not_eq_false', Bool.not_true, Bool.not_false, Int.not_lt, Int.not_le, reduceCtorEq, Bool.true_eq_false, Bool.false_eq_true] at hguard); (try (exfalso; (try clear hK'); (try clear hK); omega)))) <;> ((try (simp +contextual only [Nat.reduceAdd, Nat.reduceSub, Nat.reduceMul, Nat.reduceLeDiff, Nat.reduceLT, Int.reduceToNat, Int.reduceLT, Int.reduceLE, Int.reduceNeg, reduceCtorEq, Nat.reduceEqDiff, go_sem, hnl])); (repeat' (first | ((with_reducible refine hK' _ _ ?_); clear hK'; clear K'; try simp only [aput, List.set_cons_succ, List.set_cons_zero, List.length_cons, List.length_nil, List.length_append, List.cons_append, List.nil_append, Nat.reduceAdd, List.append_nil]) | (with_reducible refine And.intro ?_ ?_) | ((with_reducible intro hpath); try first | (exfalso; (try clear hK'); (try clear hK); omega) | (exact absurd hpath (by assumption))) | ((with_reducible first | refine gi1 ?_ | refine gi2 ?_ | refine gn1 ?_ | refine gn2 ?_ | refine gi3 ?_ | refine gn3 ?_ | refine gnot ?_); omega) | (with_reducible exact True.intro) | ((refine hK' _ _ ?_); clear hK'; clear K'; try simp only [aput, List.set_cons_succ, List.set_cons_zero, List.length_cons, List.length_nil, List.length_append, List.cons_append, List.nil_append, Nat.reduceAdd, List.append_nil]))); (try simp only [aput, List.set_cons_succ, List.set_cons_zero, List.length_cons, List.length_nil, List.length_append, List.cons_append, List.nil_append, Nat.reduceAdd, List.append_nil]))))
            | (with_reducible refine AWp.seq ?_)
            | (with_reducible refine AWp.block ?_)
            | (with_reducible refine AWp.skip ?_)
            | (with_reducible refine AWp.ret ?_)
            | (with_reducible refine AWp.exit ?_)
            | (refine AWp.cond _ rfl (fun hcond => ?_) (fun hcond => ?_) <;> first | (simp only [reduceCtorEq, Bool.true_eq_false, Bool.false_eq_true] at hcond; done) | (simp only [decide_eq_true_eq, decide_eq_false_iff_not, Bool.not_eq_true', Bool.not_eq_false', Int.not_lt, Int.not_le] at hcond; try (exfalso; omega)) | skip)
            | (with_reducible refine AThen.n ?_)
            | (with_reducible refine AThen.r ?_)
            | (with_reducible refine AThen.e ?_)
            | (with_reducible refine AInBlock.n ?_)
            | (with_reducible refine AInBlock.r ?_)
            | (with_reducible refine AInBlock.hit ?_)
            | (with_reducible refine AInBlock.miss (by with_unfolding_all decide) ?_))
          refine ⟨v + 1, Weak.head (m := 1) (by omega) [false, true, true, true, true, true, false, false, false, false, false, false, false, false, false, false, false, false, false, false, false, false, false, false, false, true, true, false, false, false, false, false, false, false, false, false, false, false, false, false, false, false, false, false, false, false, false, false, false, false, false, false, false, false, false, false, false, false, false, false, false, false, false, false, false, false, false, false, false, false, false, false, false, false, false, false, false, false, false, false, false, false, false, false, false, false, false, false, false, false, false, false, false, false, false, false, false, false, false, false] (by first | rfl | (simp [mask, hSn2]; done) | (simp [mask, hSn2] <;> simp_all <;> omega)) (by first | rfl | (simp [mask, hSn2]; done) | (simp [mask, hSn2] <;> simp_all <;> omega)) (by (repeat' (first | exact valsIn_nil _ | exact blksIn_nil _ | exact cellsIn_nil _ | refine valsIn_cons ?_ ?_ | refine blksIn_cons ?_ ?_ | refine cellsIn_cons ?_ ?_ | exact True.intro | (show _ < _; omega) | exact cellsIn_map (fun _ => True.intro) | (intro c hc; cases hc; done) | (intro c hc; simp only [List.mem_cons, List.not_mem_nil, or_false] at hc; subst hc; exact True.intro)))) (by (repeat' (first | exact valsIn_nil _ | exact blksIn_nil _ | exact cellsIn_nil _ | refine valsIn_cons ?_ ?_ | refine blksIn_cons ?_ ?_ | refine cellsIn_cons ?_ ?_ | exact True.intro | (show _ < _; omega) | exact cellsIn_map (fun _ => True.intro) | (intro c hc; cases hc; done) | (intro c hc; simp only [List.mem_cons, List.not_mem_nil, or_false] at hc; subst hc; exact True.intro)))), ?_, ?_⟩
          · exact hlt
          · omega
    · have ev : v = n := by omega
      subst ev
      have hnl : ¬ ((v : Int) < g.n) := by omega
      rw [hA]
      repeat' (first
        | (with_reducible refine AWp.seq_region (fun K hK => ?_))
        | (with_reducible refine AWp.last_region (fun K hK => ?_))
        | (with_reducible refine AWp.seq_draw (by with_unfolding_all kernel_rfl) (fun K hK => ?_))
        | (with_reducible refine AWp.last_draw (by with_unfolding_all kernel_rfl) (fun K hK => ?_))
        | ((with_reducible first | refine vcEnd ?_ | refine vcEndD ?_ | refine vcEndM ?_); refine hK _ _ ?_; clear hK; clear K)
        | ((with_reducible first | refine vcStepN (by rfl) (by with_unfolding_all rfl) ?_ | refine vcStepND (by rfl) (by with_unfolding_all rfl) ?_ | refine vcStepNM (by rfl) (by with_unfolding_all rfl) ?_); try simp only [aput, List.set_cons_succ, List.set_cons_zero, List.length_cons, List.length_nil, List.length_append, List.cons_append, List.nil_append, Nat.reduceAdd, List.append_nil])
        | ((with_reducible first | refine vcStep (by rfl) (fun K' hK' => ?_) | refine vcStepD (by rfl) (fun K' hK' => ?_) | refine vcStepM (by rfl) (fun K' hK' => ?_) | refine vcStepG (by rfl) (by with_unfolding_all rfl) (fun hguard K' hK' => ?_) (fun hguard => ?_) | refine vcStepGD (by rfl) (by with_unfolding_all rfl) (fun hguard K' hK' => ?_) (fun hguard => ?_) | refine vcStepGM (by rfl) (by with_unfolding_all rfl) (fun hguard K' hK' => ?_) (fun hguard => ?_)) <;> ((try (replace hguard := hguard; (try simp only [decide_eq_true_eq, decide_eq_false_iff_not, Bool.not_eq_true', Bool.not_eq_false', Bool.not_true, Bool.not_false, Int.not_lt, Int.not_le, reduceCtorEq, Bool.true_eq_false, Bool.false_eq_true] at hguard); (try (exfalso; (try clear hK'); (try clear hK); omega)))) <;> ((try (simp +contextual only [Nat.reduceAdd, Nat.reduceSub, Nat.reduceMul, Nat.reduceLeDiff, Nat.reduceLT, Int.reduceToNat, Int.reduceLT, Int.reduceLE, Int.reduceNeg, reduceCtorEq, Nat.reduceEqDiff, go_sem, hnl])); (repeat' (first | ((with_reducible refine hK' _ _ ?_); clear hK'; clear K'; try simp only [aput, List.set_cons_succ, List.set_cons_zero, List.length_cons, List.length_nil, List.length_append, List.cons_append, List.nil_append, Nat.reduceAdd, List.append_nil]) | ((with_reducible first | refine ⟨_, _, ACall.h (awake_ok) (by with_unfolding_all rfl), ?_⟩ | refine ⟨_, ACall.h (awake_ok) (by with_unfolding_all rfl), ?_⟩ | refine ⟨_, _, ACall.hb (awake_ok) (by with_unfolding_all rfl) (by with_unfolding_all rfl), ?_⟩ | refine ⟨_, ACall.hb (awake_ok) (by with_unfolding_all rfl) (by with_unfolding_all rfl), ?_⟩); (try simp +contextual only [Nat.reduceAdd, Nat.reduceSub, Nat.reduceMul, Nat.reduceLeDiff, Nat.reduceLT, Int.reduceToNat, Int.reduceLT, Int.reduceLE, Int.reduceNeg, reduceCtorEq, Nat.reduceEqDiff, go_sem, hnl])) | (with_reducible refine And.intro ?_ ?_) | ((with_reducible intro hpath); try first | (exfalso; (try clear hK'); (try clear hK); omega) | (exact absurd hpath (by assumption))) | ((with_reducible first | refine gi1 ?_ | refine gi2 ?_ | refine gn1 ?_ | refine gn2 ?_ | refine gi3 ?_ | refine gn3 ?_ | refine gnot ?_); omega) | (with_reducible exact True.intro) | ((refine hK' _ _ ?_); clear hK'; clear K'; try simp only [aput, List.set_cons_succ, List.set_cons_zero, List.length_cons, List.length_nil, List.length_append, List.cons_append, List.nil_append, Nat.reduceAdd, List.append_nil]))); (try simp only [aput, List.set_cons_succ, List.set_cons_zero, List.length_cons, List.length_nil, List.length_append, List.cons_append, List.nil_append, Nat.reduceAdd, List.append_nil]))))
        | (with_reducible refine AWp.seq ?_)
        | (with_reducible refine AWp.block ?_)
        | (with_reducible refine AWp.skip ?_)
        | (with_reducible refine AWp.ret ?_)
        | (with_reducible refine AWp.exit ?_)
        | (refine AWp.cond _ rfl (fun hcond => ?_) (fun hcond => ?_) <;> first | (simp only [reduceCtorEq, Bool.true_eq_false, Bool.false_eq_true] at hcond; done) | (simp only [decide_eq_true_eq, decide_eq_false_iff_not, Bool.not_eq_true', Bool.not_eq_false', Int.not_lt, Int.not_le] at hcond; try (exfalso; omega)) | skip)
        | (with_reducible refine AThen.n ?_)
        | (with_reducible refine AThen.r ?_)
        | (with_reducible refine AThen.e ?_)
        | (with_reducible refine AInBlock.n ?_)
        | (with_reducible refine AInBlock.r ?_)
        | (with_reducible refine AInBlock.hit ?_)
        | (with_reducible refine AInBlock.miss (by with_unfolding_all decide) ?_))
      simp [Rets, aret, Blk.cells, ty, Try.results10, ares, toT1, toT, borrow, borrow0, capCell, toTree0, tbool]
end Go.Proofs.Ytbdpkgckdkpepaa
