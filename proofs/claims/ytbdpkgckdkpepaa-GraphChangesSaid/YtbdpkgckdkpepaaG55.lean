/- A part of the proof: contracts of functions of the program, or plain lemmas. -/
import Derived.Test.YtbdpkgckdkpepaaG53
import Derived.Test.YtbdpkgckdkpepaaG54
import Derived.Test.YtbdpkgckdkpepaaG13
set_option linter.all false
namespace Go.Proofs.Ytbdpkgckdkpepaa
open Go.Sp
set_option linter.unusedSimpArgs false
set_option linter.unusedVariables false
set_option maxHeartbeats 4000000
set_option maxRecDepth 100000


theorem Changes_ok (g : G) (l : List Int) : ACall Try.prog 11 [tG g, tints l] (tbool true) := by
  refine ACall.of_body Try.func11 rfl (by kernel_rfl) ?_
  simp only [entry, Try.ntmps11, ofT, ofT1, ofTree, List.map_cons, List.map_nil, List.length_cons, List.length_nil, Nat.reduceAdd, Nat.reduceSub, List.replicate_succ, List.replicate_zero, List.cons_append, List.nil_append, tG, tints]
  by_cases hl : lightB g = true
  case neg =>
    have h0 : ACall Try.prog 12 [tG g] (tbool false) := by have := light_ok g; rwa [show lightB g = false by simpa using hl] at this
    repeat' (first
      | (with_reducible refine AWp.seq_region (fun K hK => ?_))
      | (with_reducible refine AWp.last_region (fun K hK => ?_))
      | (with_reducible refine AWp.seq_draw (by with_unfolding_all kernel_rfl) (fun K hK => ?_))
      | (with_reducible refine AWp.last_draw (by with_unfolding_all kernel_rfl) (fun K hK => ?_))
      | ((with_reducible first | refine vcEnd ?_ | refine vcEndD ?_ | refine vcEndM ?_); refine hK _ _ ?_; clear hK; clear K)
      | ((with_reducible first | refine vcStepN (by rfl) (by with_unfolding_all rfl) ?_ | refine vcStepND (by rfl) (by with_unfolding_all rfl) ?_ | refine vcStepNM (by rfl) (by with_unfolding_all rfl) ?_); try simp only [aput, List.set_cons_succ, List.set_cons_zero, List.length_cons, List.length_nil, List.length_append, List.cons_append, List.nil_append, Nat.reduceAdd, List.append_nil])
      | ((with_reducible first | refine vcStep (by rfl) (fun K' hK' => ?_) | refine vcStepD (by rfl) (fun K' hK' => ?_) | refine vcStepM (by rfl) (fun K' hK' => ?_) | refine vcStepG (by rfl) (by with_unfolding_all rfl) (fun hguard K' hK' => ?_) (fun hguard => ?_) | refine vcStepGD (by rfl) (by with_unfolding_all rfl) (fun hguard K' hK' => ?_) (fun hguard => ?_) | refine vcStepGM (by rfl) (by with_unfolding_all rfl) (fun hguard K' hK' => ?_) (fun hguard => ?_)) <;> ((try (replace hguard := hguard; (try simp only [decide_eq_true_eq, decide_eq_false_iff_not, Bool.not_eq_true', Bool.not_eq_false', Bool.not_true, Bool.not_false, Int.not_lt, Int.not_le, reduceCtorEq, Bool.true_eq_false, Bool.false_eq_true] at hguard); (try (exfalso; (try clear hK'); (try clear hK); omega)))) <;> ((try (simp +contextual only [go_sem])); (repeat' (first | ((with_reducible refine hK' _ _ ?_); clear hK'; clear K') | ((with_reducible first | refine ⟨_, _, ACall.h (h0) (by with_unfolding_all rfl), ?_⟩ | refine ⟨_, ACall.h (h0) (by with_unfolding_all rfl), ?_⟩ | refine ⟨_, _, ACall.hb (h0) (by with_unfolding_all rfl) (by with_unfolding_all rfl), ?_⟩ | refine ⟨_, ACall.hb (h0) (by with_unfolding_all rfl) (by with_unfolding_all rfl), ?_⟩ | refine ⟨_, _, ACall.h (awake_ok) (by with_unfolding_all rfl), ?_⟩ | refine ⟨_, ACall.h (awake_ok) (by with_unfolding_all rfl), ?_⟩ | refine ⟨_, _, ACall.hb (awake_ok) (by with_unfolding_all rfl) (by with_unfolding_all rfl), ?_⟩ | refine ⟨_, ACall.hb (awake_ok) (by with_unfolding_all rfl) (by with_unfolding_all rfl), ?_⟩); (try simp +contextual only [go_sem])) | (with_reducible refine And.intro ?_ ?_) | ((with_reducible intro hpath); try first | (exfalso; (try clear hK'); (try clear hK); omega) | (exact absurd hpath (by assumption))) | ((with_reducible first | refine gi1 ?_ | refine gi2 ?_ | refine gn1 ?_ | refine gn2 ?_ | refine gi3 ?_ | refine gn3 ?_ | refine gnot ?_); omega) | (with_reducible exact True.intro) | ((refine hK' _ _ ?_); clear hK'; clear K'))); (try simp only [aput, List.set_cons_succ, List.set_cons_zero, List.length_cons, List.length_nil, List.length_append, List.cons_append, List.nil_append, Nat.reduceAdd, List.append_nil]))))
      | (with_reducible refine AWp.seq ?_)
      | (with_reducible refine AWp.block ?_)
      | (with_reducible refine AWp.skip ?_)
      | (with_reducible refine AWp.ret ?_)
      | (with_reducible refine AWp.exit ?_)
      | (refine AWp.cond _ rfl (fun hcond => ?_) (fun hcond => ?_) <;> first | (simp only [reduceCtorEq, Bool.true_eq_false, Bool.false_eq_true] at hcond; done) | (simp only [decide_eq_true_eq, decide_eq_false_iff_not, Bool.not_eq_true', Bool.not_eq_false', Int.not_lt, Int.not_le] at hcond; try (exfalso; omega)) | skip)
      | (with_reducible refine AThen.n ?_)
      | (with_reducible refine AThen.r ?_)
      | (with_reducible refine AThen.e ?_)
      | (with_reducible refine AInBlock.n ?_)
      | (with_reducible refine AInBlock.r ?_)
      | (with_reducible refine AInBlock.hit ?_)
      | (with_reducible refine AInBlock.miss (by with_unfolding_all decide) ?_))
    simp [Rets, aret, Blk.cells, ty, Try.results11, ares, toT1, toT, borrow, borrow0, capCell, toTree0, tbool]
  have h0 : ACall Try.prog 12 [tG g] (tbool true) := by have := light_ok g; rwa [hl] at this
  have hg : g.es.length ≤ 40 := by unfold lightB at hl; simp at hl; exact hl.1
  by_cases hll : (40 : Int) < (l.length : Int)
  ·
    repeat' (first
      | (with_reducible refine AWp.seq_region (fun K hK => ?_))
      | (with_reducible refine AWp.last_region (fun K hK => ?_))
      | (with_reducible refine AWp.seq_draw (by with_unfolding_all kernel_rfl) (fun K hK => ?_))
      | (with_reducible refine AWp.last_draw (by with_unfolding_all kernel_rfl) (fun K hK => ?_))
      | ((with_reducible first | refine vcEnd ?_ | refine vcEndD ?_ | refine vcEndM ?_); refine hK _ _ ?_; clear hK; clear K)
      | ((with_reducible first | refine vcStepN (by rfl) (by with_unfolding_all rfl) ?_ | refine vcStepND (by rfl) (by with_unfolding_all rfl) ?_ | refine vcStepNM (by rfl) (by with_unfolding_all rfl) ?_); try simp only [aput, List.set_cons_succ, List.set_cons_zero, List.length_cons, List.length_nil, List.length_append, List.cons_append, List.nil_append, Nat.reduceAdd, List.append_nil])
      | ((with_reducible first | refine vcStep (by rfl) (fun K' hK' => ?_) | refine vcStepD (by rfl) (fun K' hK' => ?_) | refine vcStepM (by rfl) (fun K' hK' => ?_) | refine vcStepG (by rfl) (by with_unfolding_all rfl) (fun hguard K' hK' => ?_) (fun hguard => ?_) | refine vcStepGD (by rfl) (by with_unfolding_all rfl) (fun hguard K' hK' => ?_) (fun hguard => ?_) | refine vcStepGM (by rfl) (by with_unfolding_all rfl) (fun hguard K' hK' => ?_) (fun hguard => ?_)) <;> ((try (replace hguard := hguard; (try simp only [decide_eq_true_eq, decide_eq_false_iff_not, Bool.not_eq_true', Bool.not_eq_false', Bool.not_true, Bool.not_false, Int.not_lt, Int.not_le, reduceCtorEq, Bool.true_eq_false, Bool.false_eq_true] at hguard); (try (exfalso; (try clear hK'); (try clear hK); omega)))) <;> ((try (simp +contextual only [go_sem, iRows_len, hll])); (repeat' (first | ((with_reducible refine hK' _ _ ?_); clear hK'; clear K') | ((with_reducible first | refine ⟨_, _, ACall.h (h0) (by with_unfolding_all rfl), ?_⟩ | refine ⟨_, ACall.h (h0) (by with_unfolding_all rfl), ?_⟩ | refine ⟨_, _, ACall.hb (h0) (by with_unfolding_all rfl) (by with_unfolding_all rfl), ?_⟩ | refine ⟨_, ACall.hb (h0) (by with_unfolding_all rfl) (by with_unfolding_all rfl), ?_⟩ | refine ⟨_, _, ACall.h (awake_ok) (by with_unfolding_all rfl), ?_⟩ | refine ⟨_, ACall.h (awake_ok) (by with_unfolding_all rfl), ?_⟩ | refine ⟨_, _, ACall.hb (awake_ok) (by with_unfolding_all rfl) (by with_unfolding_all rfl), ?_⟩ | refine ⟨_, ACall.hb (awake_ok) (by with_unfolding_all rfl) (by with_unfolding_all rfl), ?_⟩); (try simp +contextual only [go_sem, iRows_len, hll])) | (with_reducible refine And.intro ?_ ?_) | ((with_reducible intro hpath); try first | (exfalso; (try clear hK'); (try clear hK); omega) | (exact absurd hpath (by assumption))) | ((with_reducible first | refine gi1 ?_ | refine gi2 ?_ | refine gn1 ?_ | refine gn2 ?_ | refine gi3 ?_ | refine gn3 ?_ | refine gnot ?_); omega) | (with_reducible exact True.intro) | ((refine hK' _ _ ?_); clear hK'; clear K'))); (try simp only [aput, List.set_cons_succ, List.set_cons_zero, List.length_cons, List.length_nil, List.length_append, List.cons_append, List.nil_append, Nat.reduceAdd, List.append_nil]))))
      | (with_reducible refine AWp.seq ?_)
      | (with_reducible refine AWp.block ?_)
      | (with_reducible refine AWp.skip ?_)
      | (with_reducible refine AWp.ret ?_)
      | (with_reducible refine AWp.exit ?_)
      | (refine AWp.cond _ rfl (fun hcond => ?_) (fun hcond => ?_) <;> first | (simp only [reduceCtorEq, Bool.true_eq_false, Bool.false_eq_true] at hcond; done) | (simp only [decide_eq_true_eq, decide_eq_false_iff_not, Bool.not_eq_true', Bool.not_eq_false', Int.not_lt, Int.not_le] at hcond; try (exfalso; omega)) | skip)
      | (with_reducible refine AThen.n ?_)
      | (with_reducible refine AThen.r ?_)
      | (with_reducible refine AThen.e ?_)
      | (with_reducible refine AInBlock.n ?_)
      | (with_reducible refine AInBlock.r ?_)
      | (with_reducible refine AInBlock.hit ?_)
      | (with_reducible refine AInBlock.miss (by with_unfolding_all decide) ?_))
    simp [Rets, aret, Blk.cells, ty, Try.results11, ares, toT1, toT, borrow, borrow0, capCell, toTree0, tbool]
  have hlen : l.length ≤ 40 := by omega
  have hC := CheckR_ok g (by omega)
  have hRe := Relabel_ok g l (by omega) (by omega)
  have hLo := Loopless_ok g (by omega)
  have hSi := Simple_ok g (by omega)
  have hE0 := Same_ok ⟨0, []⟩ ⟨0, []⟩ (by decide) (by decide)
  rw [decide_eq_true ⟨rfl, rfl⟩] at hE0
  by_cases hc : checkG g = 0
  case neg =>
    have e1 : relE g l = checkG g := if_pos hc
    have e2 : relG g l = ⟨0, []⟩ := if_pos (by rw [e1]; exact hc)
    have e3 : limG g 50 = ⟨0, []⟩ := if_pos hc
    have e4 : limG g 1 = ⟨0, []⟩ := if_pos hc
    rw [e1, e2] at hRe
    rw [e3] at hLo
    rw [e4] at hSi
    generalize checkG g = E at *
    repeat' (first
      | (with_reducible refine AWp.seq_region (fun K hK => ?_))
      | (with_reducible refine AWp.last_region (fun K hK => ?_))
      | (with_reducible refine AWp.seq_draw (by with_unfolding_all kernel_rfl) (fun K hK => ?_))
      | (with_reducible refine AWp.last_draw (by with_unfolding_all kernel_rfl) (fun K hK => ?_))
      | ((with_reducible first | refine vcEnd ?_ | refine vcEndD ?_ | refine vcEndM ?_); refine hK _ _ ?_; clear hK; clear K)
      | ((with_reducible first | refine vcStepN (by rfl) (by with_unfolding_all rfl) ?_ | refine vcStepND (by rfl) (by with_unfolding_all rfl) ?_ | refine vcStepNM (by rfl) (by with_unfolding_all rfl) ?_); try simp only [aput, List.set_cons_succ, List.set_cons_zero, List.length_cons, List.length_nil, List.length_append, List.cons_append, List.nil_append, Nat.reduceAdd, List.append_nil])
      | ((with_reducible first | refine vcStep (by rfl) (fun K' hK' => ?_) | refine vcStepD (by rfl) (fun K' hK' => ?_) | refine vcStepM (by rfl) (fun K' hK' => ?_) | refine vcStepG (by rfl) (by with_unfolding_all rfl) (fun hguard K' hK' => ?_) (fun hguard => ?_) | refine vcStepGD (by rfl) (by with_unfolding_all rfl) (fun hguard K' hK' => ?_) (fun hguard => ?_) | refine vcStepGM (by rfl) (by with_unfolding_all rfl) (fun hguard K' hK' => ?_) (fun hguard => ?_)) <;> ((try (replace hguard := hguard; (try simp only [decide_eq_true_eq, decide_eq_false_iff_not, Bool.not_eq_true', Bool.not_eq_false', Bool.not_true, Bool.not_false, Int.not_lt, Int.not_le, reduceCtorEq, Bool.true_eq_false, Bool.false_eq_true] at hguard); (try (exfalso; (try clear hK'); (try clear hK); omega)))) <;> ((try (simp +contextual only [go_sem, iRows_len, hll, hc])); (repeat' (first | ((with_reducible refine hK' _ _ ?_); clear hK'; clear K') | ((with_reducible first | refine ⟨_, _, ACall.h (h0) (by with_unfolding_all rfl), ?_⟩ | refine ⟨_, ACall.h (h0) (by with_unfolding_all rfl), ?_⟩ | refine ⟨_, _, ACall.hb (h0) (by with_unfolding_all rfl) (by with_unfolding_all rfl), ?_⟩ | refine ⟨_, ACall.hb (h0) (by with_unfolding_all rfl) (by with_unfolding_all rfl), ?_⟩ | refine ⟨_, _, ACall.h (awake_ok) (by with_unfolding_all rfl), ?_⟩ | refine ⟨_, ACall.h (awake_ok) (by with_unfolding_all rfl), ?_⟩ | refine ⟨_, _, ACall.hb (awake_ok) (by with_unfolding_all rfl) (by with_unfolding_all rfl), ?_⟩ | refine ⟨_, ACall.hb (awake_ok) (by with_unfolding_all rfl) (by with_unfolding_all rfl), ?_⟩ | refine ⟨_, _, ACall.h (hC) (by with_unfolding_all rfl), ?_⟩ | refine ⟨_, ACall.h (hC) (by with_unfolding_all rfl), ?_⟩ | refine ⟨_, _, ACall.hb (hC) (by with_unfolding_all rfl) (by with_unfolding_all rfl), ?_⟩ | refine ⟨_, ACall.hb (hC) (by with_unfolding_all rfl) (by with_unfolding_all rfl), ?_⟩ | refine ⟨_, _, ACall.h (hRe) (by with_unfolding_all rfl), ?_⟩ | refine ⟨_, ACall.h (hRe) (by with_unfolding_all rfl), ?_⟩ | refine ⟨_, _, ACall.hb (hRe) (by with_unfolding_all rfl) (by with_unfolding_all rfl), ?_⟩ | refine ⟨_, ACall.hb (hRe) (by with_unfolding_all rfl) (by with_unfolding_all rfl), ?_⟩ | refine ⟨_, _, ACall.h (hLo) (by with_unfolding_all rfl), ?_⟩ | refine ⟨_, ACall.h (hLo) (by with_unfolding_all rfl), ?_⟩ | refine ⟨_, _, ACall.hb (hLo) (by with_unfolding_all rfl) (by with_unfolding_all rfl), ?_⟩ | refine ⟨_, ACall.hb (hLo) (by with_unfolding_all rfl) (by with_unfolding_all rfl), ?_⟩ | refine ⟨_, _, ACall.h (hSi) (by with_unfolding_all rfl), ?_⟩ | refine ⟨_, ACall.h (hSi) (by with_unfolding_all rfl), ?_⟩ | refine ⟨_, _, ACall.hb (hSi) (by with_unfolding_all rfl) (by with_unfolding_all rfl), ?_⟩ | refine ⟨_, ACall.hb (hSi) (by with_unfolding_all rfl) (by with_unfolding_all rfl), ?_⟩ | refine ⟨_, _, ACall.h (hE0) (by with_unfolding_all rfl), ?_⟩ | refine ⟨_, ACall.h (hE0) (by with_unfolding_all rfl), ?_⟩ | refine ⟨_, _, ACall.hb (hE0) (by with_unfolding_all rfl) (by with_unfolding_all rfl), ?_⟩ | refine ⟨_, ACall.hb (hE0) (by with_unfolding_all rfl) (by with_unfolding_all rfl), ?_⟩); (try simp +contextual only [go_sem, iRows_len, hll, hc])) | (with_reducible refine And.intro ?_ ?_) | ((with_reducible intro hpath); try first | (exfalso; (try clear hK'); (try clear hK); omega) | (exact absurd hpath (by assumption))) | ((with_reducible first | refine gi1 ?_ | refine gi2 ?_ | refine gn1 ?_ | refine gn2 ?_ | refine gi3 ?_ | refine gn3 ?_ | refine gnot ?_); omega) | (with_reducible exact True.intro) | ((refine hK' _ _ ?_); clear hK'; clear K'))); (try simp only [aput, List.set_cons_succ, List.set_cons_zero, List.length_cons, List.length_nil, List.length_append, List.cons_append, List.nil_append, Nat.reduceAdd, List.append_nil]))))
      | (with_reducible refine AWp.seq ?_)
      | (with_reducible refine AWp.block ?_)
      | (with_reducible refine AWp.skip ?_)
      | (with_reducible refine AWp.ret ?_)
      | (with_reducible refine AWp.exit ?_)
      | (refine AWp.cond _ rfl (fun hcond => ?_) (fun hcond => ?_) <;> first | (simp only [reduceCtorEq, Bool.true_eq_false, Bool.false_eq_true] at hcond; done) | (simp only [decide_eq_true_eq, decide_eq_false_iff_not, Bool.not_eq_true', Bool.not_eq_false', Int.not_lt, Int.not_le] at hcond; try (exfalso; omega)) | skip)
      | (with_reducible refine AThen.n ?_)
      | (with_reducible refine AThen.r ?_)
      | (with_reducible refine AThen.e ?_)
      | (with_reducible refine AInBlock.n ?_)
      | (with_reducible refine AInBlock.r ?_)
      | (with_reducible refine AInBlock.hit ?_)
      | (with_reducible refine AInBlock.miss (by with_unfolding_all decide) ?_))
    simp [Rets, aret, Blk.cells, ty, Try.results11, ares, toT1, toT, borrow, borrow0, capCell, toTree0, tbool]
  rw [hc] at hC hLo hSi
  have hNa := Renaming_ok g.n l (fun _ => by omega)
  have e3 : limG g 50 = ⟨g.n, limL 50 g.es⟩ := if_neg (by omega)
  have e4 : limG g 1 = ⟨g.n, limL 1 g.es⟩ := if_neg (by omega)
  have hR5 := LimitedR_ok g 50 (by omega)
  have hR1 := LimitedR_ok g 1 (by omega)
  have hl5 := limL_len 50 g.es
  have hl1 := limL_len 1 g.es
  rw [e3] at hLo
  rw [e4] at hSi
  have hS5 := Same_ok ⟨g.n, limL 50 g.es⟩ ⟨g.n, limL 50 g.es⟩ (by simp only; omega) (by simp only; omega)
  have hS1 := Same_ok ⟨g.n, limL 1 g.es⟩ ⟨g.n, limL 1 g.es⟩ (by simp only; omega) (by simp only; omega)
  rw [decide_eq_true ⟨rfl, rfl⟩] at hS5 hS1
  by_cases hf : rnmE g.n l = 0
  case neg =>
    have e1 : relE g l = rnmE g.n l := if_neg (by omega)
    have e2 : relG g l = ⟨0, []⟩ := if_pos (by rw [e1]; exact hf)
    rw [e1, e2] at hRe
    generalize rnmE g.n l = F at *
    generalize limL 50 g.es = L5 at *
    generalize limL 1 g.es = L1 at *
    repeat' (first
      | (with_reducible refine AWp.seq_region (fun K hK => ?_))
      | (with_reducible refine AWp.last_region (fun K hK => ?_))
      | (with_reducible refine AWp.seq_draw (by with_unfolding_all kernel_rfl) (fun K hK => ?_))
      | (with_reducible refine AWp.last_draw (by with_unfolding_all kernel_rfl) (fun K hK => ?_))
      | ((with_reducible first | refine vcEnd ?_ | refine vcEndD ?_ | refine vcEndM ?_); refine hK _ _ ?_; clear hK; clear K)
      | ((with_reducible first | refine vcStepN (by rfl) (by with_unfolding_all rfl) ?_ | refine vcStepND (by rfl) (by with_unfolding_all rfl) ?_ | refine vcStepNM (by rfl) (by with_unfolding_all rfl) ?_); try simp only [aput, List.set_cons_succ, List.set_cons_zero, List.length_cons, List.length_nil, List.length_append, List.cons_append, List.nil_append, Nat.reduceAdd, List.append_nil])
      | ((with_reducible first | refine vcStep (by rfl) (fun K' hK' => ?_) | refine vcStepD (by rfl) (fun K' hK' => ?_) | refine vcStepM (by rfl) (fun K' hK' => ?_) | refine vcStepG (by rfl) (by with_unfolding_all rfl) (fun hguard K' hK' => ?_) (fun hguard => ?_) | refine vcStepGD (by rfl) (by with_unfolding_all rfl) (fun hguard K' hK' => ?_) (fun hguard => ?_) | refine vcStepGM (by rfl) (by with_unfolding_all rfl) (fun hguard K' hK' => ?_) (fun hguard => ?_)) <;> ((try (replace hguard := hguard; (try simp only [decide_eq_true_eq, decide_eq_false_iff_not, Bool.not_eq_true', Bool.not_eq_false', Bool.not_true, Bool.not_false, Int.not_lt, Int.not_le, reduceCtorEq, Bool.true_eq_false, Bool.false_eq_true] at hguard); (try (exfalso; (try clear hK'); (try clear hK); omega)))) <;> ((try (simp +contextual only [go_sem, iRows_len, hll, hf])); (repeat' (first | ((with_reducible refine hK' _ _ ?_); clear hK'; clear K') | ((with_reducible first | refine ⟨_, _, ACall.h (h0) (by with_unfolding_all rfl), ?_⟩ | refine ⟨_, ACall.h (h0) (by with_unfolding_all rfl), ?_⟩ | refine ⟨_, _, ACall.hb (h0) (by with_unfolding_all rfl) (by with_unfolding_all rfl), ?_⟩ | refine ⟨_, ACall.hb (h0) (by with_unfolding_all rfl) (by with_unfolding_all rfl), ?_⟩ | refine ⟨_, _, ACall.h (awake_ok) (by with_unfolding_all rfl), ?_⟩ | refine ⟨_, ACall.h (awake_ok) (by with_unfolding_all rfl), ?_⟩ | refine ⟨_, _, ACall.hb (awake_ok) (by with_unfolding_all rfl) (by with_unfolding_all rfl), ?_⟩ | refine ⟨_, ACall.hb (awake_ok) (by with_unfolding_all rfl) (by with_unfolding_all rfl), ?_⟩ | refine ⟨_, _, ACall.h (hC) (by with_unfolding_all rfl), ?_⟩ | refine ⟨_, ACall.h (hC) (by with_unfolding_all rfl), ?_⟩ | refine ⟨_, _, ACall.hb (hC) (by with_unfolding_all rfl) (by with_unfolding_all rfl), ?_⟩ | refine ⟨_, ACall.hb (hC) (by with_unfolding_all rfl) (by with_unfolding_all rfl), ?_⟩ | refine ⟨_, _, ACall.h (hNa) (by with_unfolding_all rfl), ?_⟩ | refine ⟨_, ACall.h (hNa) (by with_unfolding_all rfl), ?_⟩ | refine ⟨_, _, ACall.hb (hNa) (by with_unfolding_all rfl) (by with_unfolding_all rfl), ?_⟩ | refine ⟨_, ACall.hb (hNa) (by with_unfolding_all rfl) (by with_unfolding_all rfl), ?_⟩ | refine ⟨_, _, ACall.h (hRe) (by with_unfolding_all rfl), ?_⟩ | refine ⟨_, ACall.h (hRe) (by with_unfolding_all rfl), ?_⟩ | refine ⟨_, _, ACall.hb (hRe) (by with_unfolding_all rfl) (by with_unfolding_all rfl), ?_⟩ | refine ⟨_, ACall.hb (hRe) (by with_unfolding_all rfl) (by with_unfolding_all rfl), ?_⟩ | refine ⟨_, _, ACall.h (hLo) (by with_unfolding_all rfl), ?_⟩ | refine ⟨_, ACall.h (hLo) (by with_unfolding_all rfl), ?_⟩ | refine ⟨_, _, ACall.hb (hLo) (by with_unfolding_all rfl) (by with_unfolding_all rfl), ?_⟩ | refine ⟨_, ACall.hb (hLo) (by with_unfolding_all rfl) (by with_unfolding_all rfl), ?_⟩ | refine ⟨_, _, ACall.h (hSi) (by with_unfolding_all rfl), ?_⟩ | refine ⟨_, ACall.h (hSi) (by with_unfolding_all rfl), ?_⟩ | refine ⟨_, _, ACall.hb (hSi) (by with_unfolding_all rfl) (by with_unfolding_all rfl), ?_⟩ | refine ⟨_, ACall.hb (hSi) (by with_unfolding_all rfl) (by with_unfolding_all rfl), ?_⟩ | refine ⟨_, _, ACall.h (hE0) (by with_unfolding_all rfl), ?_⟩ | refine ⟨_, ACall.h (hE0) (by with_unfolding_all rfl), ?_⟩ | refine ⟨_, _, ACall.hb (hE0) (by with_unfolding_all rfl) (by with_unfolding_all rfl), ?_⟩ | refine ⟨_, ACall.hb (hE0) (by with_unfolding_all rfl) (by with_unfolding_all rfl), ?_⟩ | refine ⟨_, _, ACall.h (hR5) (by with_unfolding_all rfl), ?_⟩ | refine ⟨_, ACall.h (hR5) (by with_unfolding_all rfl), ?_⟩ | refine ⟨_, _, ACall.hb (hR5) (by with_unfolding_all rfl) (by with_unfolding_all rfl), ?_⟩ | refine ⟨_, ACall.hb (hR5) (by with_unfolding_all rfl) (by with_unfolding_all rfl), ?_⟩ | refine ⟨_, _, ACall.h (hR1) (by with_unfolding_all rfl), ?_⟩ | refine ⟨_, ACall.h (hR1) (by with_unfolding_all rfl), ?_⟩ | refine ⟨_, _, ACall.hb (hR1) (by with_unfolding_all rfl) (by with_unfolding_all rfl), ?_⟩ | refine ⟨_, ACall.hb (hR1) (by with_unfolding_all rfl) (by with_unfolding_all rfl), ?_⟩ | refine ⟨_, _, ACall.h (hS5) (by with_unfolding_all rfl), ?_⟩ | refine ⟨_, ACall.h (hS5) (by with_unfolding_all rfl), ?_⟩ | refine ⟨_, _, ACall.hb (hS5) (by with_unfolding_all rfl) (by with_unfolding_all rfl), ?_⟩ | refine ⟨_, ACall.hb (hS5) (by with_unfolding_all rfl) (by with_unfolding_all rfl), ?_⟩ | refine ⟨_, _, ACall.h (hS1) (by with_unfolding_all rfl), ?_⟩ | refine ⟨_, ACall.h (hS1) (by with_unfolding_all rfl), ?_⟩ | refine ⟨_, _, ACall.hb (hS1) (by with_unfolding_all rfl) (by with_unfolding_all rfl), ?_⟩ | refine ⟨_, ACall.hb (hS1) (by with_unfolding_all rfl) (by with_unfolding_all rfl), ?_⟩); (try simp +contextual only [go_sem, iRows_len, hll, hf])) | (with_reducible refine And.intro ?_ ?_) | ((with_reducible intro hpath); try first | (exfalso; (try clear hK'); (try clear hK); omega) | (exact absurd hpath (by assumption))) | ((with_reducible first | refine gi1 ?_ | refine gi2 ?_ | refine gn1 ?_ | refine gn2 ?_ | refine gi3 ?_ | refine gn3 ?_ | refine gnot ?_); omega) | (with_reducible exact True.intro) | ((refine hK' _ _ ?_); clear hK'; clear K'))); (try simp only [aput, List.set_cons_succ, List.set_cons_zero, List.length_cons, List.length_nil, List.length_append, List.cons_append, List.nil_append, Nat.reduceAdd, List.append_nil]))))
      | (with_reducible refine AWp.seq ?_)
      | (with_reducible refine AWp.block ?_)
      | (with_reducible refine AWp.skip ?_)
      | (with_reducible refine AWp.ret ?_)
      | (with_reducible refine AWp.exit ?_)
      | (refine AWp.cond _ rfl (fun hcond => ?_) (fun hcond => ?_) <;> first | (simp only [reduceCtorEq, Bool.true_eq_false, Bool.false_eq_true] at hcond; done) | (simp only [decide_eq_true_eq, decide_eq_false_iff_not, Bool.not_eq_true', Bool.not_eq_false', Int.not_lt, Int.not_le] at hcond; try (exfalso; omega)) | skip)
      | (with_reducible refine AThen.n ?_)
      | (with_reducible refine AThen.r ?_)
      | (with_reducible refine AThen.e ?_)
      | (with_reducible refine AInBlock.n ?_)
      | (with_reducible refine AInBlock.r ?_)
      | (with_reducible refine AInBlock.hit ?_)
      | (with_reducible refine AInBlock.miss (by with_unfolding_all decide) ?_))
    simp [Rets, aret, Blk.cells, ty, Try.results11, ares, toT1, toT, borrow, borrow0, capCell, toTree0, tbool]
  have hn12 := (checkG_zero.1 hc).1
  obtain ⟨n, hn⟩ : ∃ n : Nat, g.n = n := ⟨g.n.toNat, by omega⟩
  have hP : PermL n l := permL_of (by rw [← hn]; exact hf)
  obtain ⟨hrel, hRn⟩ := ren_of hc hn hP
  have hRR := RelabelledR_ok g n l hc hn hP (by omega)
  have hes : (relG g l).es.length = g.es.length := by rw [hRn.perm.length_eq, List.length_map]
  have hSa := Same_ok (relG g l) (relG g l) (by omega) (by omega)
  rw [decide_eq_true ⟨rfl, rfl⟩] at hSa
  rw [hrel] at hRe
  rw [hf] at hNa
  generalize relG g l = gr at *
  generalize limL 50 g.es = L5 at *
  generalize limL 1 g.es = L1 at *
  repeat' (first
    | (with_reducible refine AWp.seq_region (fun K hK => ?_))
    | (with_reducible refine AWp.last_region (fun K hK => ?_))
    | (with_reducible refine AWp.seq_draw (by with_unfolding_all kernel_rfl) (fun K hK => ?_))
    | (with_reducible refine AWp.last_draw (by with_unfolding_all kernel_rfl) (fun K hK => ?_))
    | ((with_reducible first | refine vcEnd ?_ | refine vcEndD ?_ | refine vcEndM ?_); refine hK _ _ ?_; clear hK; clear K)
    | ((with_reducible first | refine vcStepN (by rfl) (by with_unfolding_all rfl) ?_ | refine vcStepND (by rfl) (by with_unfolding_all rfl) ?_ | refine vcStepNM (by rfl) (by with_unfolding_all rfl) ?_); try simp only [aput, List.set_cons_succ, List.set_cons_zero, List.length_cons, List.length_nil, List.length_append, List.cons_append, List.nil_append, Nat.reduceAdd, List.append_nil])
    | ((with_reducible first | refine vcStep (by rfl) (fun K' hK' => ?_) | refine vcStepD (by rfl) (fun K' hK' => ?_) | refine vcStepM (by rfl) (fun K' hK' => ?_) | refine vcStepG (by rfl) (by with_unfolding_all rfl) (fun hguard K' hK' => ?_) (fun hguard => ?_) | refine vcStepGD (by rfl) (by with_unfolding_all rfl) (fun hguard K' hK' => ?_) (fun hguard => ?_) | refine vcStepGM (by rfl) (by with_unfolding_all rfl) (fun hguard K' hK' => ?_) (fun hguard => ?_)) <;> ((try (replace hguard := hguard; (try simp only [decide_eq_true_eq, decide_eq_false_iff_not, Bool.not_eq_true', Bool.not_eq_false', Bool.not_true, Bool.not_false, Int.not_lt, Int.not_le, reduceCtorEq, Bool.true_eq_false, Bool.false_eq_true] at hguard); (try (exfalso; (try clear hK'); (try clear hK); omega)))) <;> ((try (simp +contextual only [go_sem, iRows_len, hll])); (repeat' (first | ((with_reducible refine hK' _ _ ?_); clear hK'; clear K') | ((with_reducible first | refine ⟨_, _, ACall.h (h0) (by with_unfolding_all rfl), ?_⟩ | refine ⟨_, ACall.h (h0) (by with_unfolding_all rfl), ?_⟩ | refine ⟨_, _, ACall.hb (h0) (by with_unfolding_all rfl) (by with_unfolding_all rfl), ?_⟩ | refine ⟨_, ACall.hb (h0) (by with_unfolding_all rfl) (by with_unfolding_all rfl), ?_⟩ | refine ⟨_, _, ACall.h (awake_ok) (by with_unfolding_all rfl), ?_⟩ | refine ⟨_, ACall.h (awake_ok) (by with_unfolding_all rfl), ?_⟩ | refine ⟨_, _, ACall.hb (awake_ok) (by with_unfolding_all rfl) (by with_unfolding_all rfl), ?_⟩ | refine ⟨_, ACall.hb (awake_ok) (by with_unfolding_all rfl) (by with_unfolding_all rfl), ?_⟩ | refine ⟨_, _, ACall.h (hC) (by with_unfolding_all rfl), ?_⟩ | refine ⟨_, ACall.h (hC) (by with_unfolding_all rfl), ?_⟩ | refine ⟨_, _, ACall.hb (hC) (by with_unfolding_all rfl) (by with_unfolding_all rfl), ?_⟩ | refine ⟨_, ACall.hb (hC) (by with_unfolding_all rfl) (by with_unfolding_all rfl), ?_⟩ | refine ⟨_, _, ACall.h (hNa) (by with_unfolding_all rfl), ?_⟩ | refine ⟨_, ACall.h (hNa) (by with_unfolding_all rfl), ?_⟩ | refine ⟨_, _, ACall.hb (hNa) (by with_unfolding_all rfl) (by with_unfolding_all rfl), ?_⟩ | refine ⟨_, ACall.hb (hNa) (by with_unfolding_all rfl) (by with_unfolding_all rfl), ?_⟩ | refine ⟨_, _, ACall.h (hRe) (by with_unfolding_all rfl), ?_⟩ | refine ⟨_, ACall.h (hRe) (by with_unfolding_all rfl), ?_⟩ | refine ⟨_, _, ACall.hb (hRe) (by with_unfolding_all rfl) (by with_unfolding_all rfl), ?_⟩ | refine ⟨_, ACall.hb (hRe) (by with_unfolding_all rfl) (by with_unfolding_all rfl), ?_⟩ | refine ⟨_, _, ACall.h (hLo) (by with_unfolding_all rfl), ?_⟩ | refine ⟨_, ACall.h (hLo) (by with_unfolding_all rfl), ?_⟩ | refine ⟨_, _, ACall.hb (hLo) (by with_unfolding_all rfl) (by with_unfolding_all rfl), ?_⟩ | refine ⟨_, ACall.hb (hLo) (by with_unfolding_all rfl) (by with_unfolding_all rfl), ?_⟩ | refine ⟨_, _, ACall.h (hSi) (by with_unfolding_all rfl), ?_⟩ | refine ⟨_, ACall.h (hSi) (by with_unfolding_all rfl), ?_⟩ | refine ⟨_, _, ACall.hb (hSi) (by with_unfolding_all rfl) (by with_unfolding_all rfl), ?_⟩ | refine ⟨_, ACall.hb (hSi) (by with_unfolding_all rfl) (by with_unfolding_all rfl), ?_⟩ | refine ⟨_, _, ACall.h (hRR) (by with_unfolding_all rfl), ?_⟩ | refine ⟨_, ACall.h (hRR) (by with_unfolding_all rfl), ?_⟩ | refine ⟨_, _, ACall.hb (hRR) (by with_unfolding_all rfl) (by with_unfolding_all rfl), ?_⟩ | refine ⟨_, ACall.hb (hRR) (by with_unfolding_all rfl) (by with_unfolding_all rfl), ?_⟩ | refine ⟨_, _, ACall.h (hSa) (by with_unfolding_all rfl), ?_⟩ | refine ⟨_, ACall.h (hSa) (by with_unfolding_all rfl), ?_⟩ | refine ⟨_, _, ACall.hb (hSa) (by with_unfolding_all rfl) (by with_unfolding_all rfl), ?_⟩ | refine ⟨_, ACall.hb (hSa) (by with_unfolding_all rfl) (by with_unfolding_all rfl), ?_⟩ | refine ⟨_, _, ACall.h (hR5) (by with_unfolding_all rfl), ?_⟩ | refine ⟨_, ACall.h (hR5) (by with_unfolding_all rfl), ?_⟩ | refine ⟨_, _, ACall.hb (hR5) (by with_unfolding_all rfl) (by with_unfolding_all rfl), ?_⟩ | refine ⟨_, ACall.hb (hR5) (by with_unfolding_all rfl) (by with_unfolding_all rfl), ?_⟩ | refine ⟨_, _, ACall.h (hR1) (by with_unfolding_all rfl), ?_⟩ | refine ⟨_, ACall.h (hR1) (by with_unfolding_all rfl), ?_⟩ | refine ⟨_, _, ACall.hb (hR1) (by with_unfolding_all rfl) (by with_unfolding_all rfl), ?_⟩ | refine ⟨_, ACall.hb (hR1) (by with_unfolding_all rfl) (by with_unfolding_all rfl), ?_⟩ | refine ⟨_, _, ACall.h (hS5) (by with_unfolding_all rfl), ?_⟩ | refine ⟨_, ACall.h (hS5) (by with_unfolding_all rfl), ?_⟩ | refine ⟨_, _, ACall.hb (hS5) (by with_unfolding_all rfl) (by with_unfolding_all rfl), ?_⟩ | refine ⟨_, ACall.hb (hS5) (by with_unfolding_all rfl) (by with_unfolding_all rfl), ?_⟩ | refine ⟨_, _, ACall.h (hS1) (by with_unfolding_all rfl), ?_⟩ | refine ⟨_, ACall.h (hS1) (by with_unfolding_all rfl), ?_⟩ | refine ⟨_, _, ACall.hb (hS1) (by with_unfolding_all rfl) (by with_unfolding_all rfl), ?_⟩ | refine ⟨_, ACall.hb (hS1) (by with_unfolding_all rfl) (by with_unfolding_all rfl), ?_⟩); (try simp +contextual only [go_sem, iRows_len, hll])) | (with_reducible refine And.intro ?_ ?_) | ((with_reducible intro hpath); try first | (exfalso; (try clear hK'); (try clear hK); omega) | (exact absurd hpath (by assumption))) | ((with_reducible first | refine gi1 ?_ | refine gi2 ?_ | refine gn1 ?_ | refine gn2 ?_ | refine gi3 ?_ | refine gn3 ?_ | refine gnot ?_); omega) | (with_reducible exact True.intro) | ((refine hK' _ _ ?_); clear hK'; clear K'))); (try simp only [aput, List.set_cons_succ, List.set_cons_zero, List.length_cons, List.length_nil, List.length_append, List.cons_append, List.nil_append, Nat.reduceAdd, List.append_nil]))))
    | (with_reducible refine AWp.seq ?_)
    | (with_reducible refine AWp.block ?_)
    | (with_reducible refine AWp.skip ?_)
    | (with_reducible refine AWp.ret ?_)
    | (with_reducible refine AWp.exit ?_)
    | (refine AWp.cond _ rfl (fun hcond => ?_) (fun hcond => ?_) <;> first | (simp only [reduceCtorEq, Bool.true_eq_false, Bool.false_eq_true] at hcond; done) | (simp only [decide_eq_true_eq, decide_eq_false_iff_not, Bool.not_eq_true', Bool.not_eq_false', Int.not_lt, Int.not_le] at hcond; try (exfalso; omega)) | skip)
    | (with_reducible refine AThen.n ?_)
    | (with_reducible refine AThen.r ?_)
    | (with_reducible refine AThen.e ?_)
    | (with_reducible refine AInBlock.n ?_)
    | (with_reducible refine AInBlock.r ?_)
    | (with_reducible refine AInBlock.hit ?_)
    | (with_reducible refine AInBlock.miss (by with_unfolding_all decide) ?_))
  simp [Rets, aret, Blk.cells, ty, Try.results11, ares, toT1, toT, borrow, borrow0, capCell, toTree0, tbool]
end Go.Proofs.Ytbdpkgckdkpepaa
