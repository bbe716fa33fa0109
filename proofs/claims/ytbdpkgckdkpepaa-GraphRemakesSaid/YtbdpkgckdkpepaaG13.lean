/- A part of the proof: contracts of functions of the program, or plain lemmas. -/
import Derived.Test.YtbdpkgckdkpepaaG11
import Derived.Test.YtbdpkgckdkpepaaG12
set_option linter.all false
namespace Go.Proofs.Ytbdpkgckdkpepaa
open Go.Sp
set_option linter.unusedSimpArgs false
set_option linter.unusedVariables false
set_option maxHeartbeats 4000000
set_option maxRecDepth 100000


instance : DecidableEq E := fun x y => decidable_of_iff (x.a = y.a ∧ x.b = y.b ∧ x.m = y.m) (by cases x; cases y; simp)
theorem Same_ok (g h : G) (hl : g.es.length < 2 ^ 40) (hm : h.es.length < 2 ^ 40) : ACall Try.prog 25 [tG g, tG h] (tbool (decide (g.n = h.n ∧ g.es = h.es))) := by
  refine ACall.of_body Try.func25 rfl (by kernel_rfl) ?_
  simp only [entry, Try.ntmps25, ofT, ofT1, ofTree, List.map_cons, List.map_nil, List.length_cons, List.length_nil, Nat.reduceAdd, Nat.reduceSub, List.replicate_succ, List.replicate_zero, List.cons_append, List.nil_append, tG]
  repeat' (first
    | (with_reducible refine AWp.seq_region (fun K hK => ?_))
    | (with_reducible refine AWp.last_region (fun K hK => ?_))
    | (with_reducible refine AWp.seq_draw (by with_unfolding_all kernel_rfl) (fun K hK => ?_))
    | (with_reducible refine AWp.last_draw (by with_unfolding_all kernel_rfl) (fun K hK => ?_))
    | ((with_reducible first | refine vcEnd ?_ | refine vcEndD ?_ | refine vcEndM ?_); refine hK _ _ ?_; clear hK; clear K)
    | ((with_reducible first | refine vcStepN (by rfl) (by with_unfolding_all rfl) ?_ | refine vcStepND (by rfl) (by with_unfolding_all rfl) ?_ | refine vcStepNM (by rfl) (by with_unfolding_all rfl) ?_); try simp only [aput, List.set_cons_succ, List.set_cons_zero, List.length_cons, List.length_nil, List.length_append, List.cons_append, List.nil_append, Nat.reduceAdd, List.append_nil])
    | ((with_reducible first | refine vcStep (by rfl) (fun K' hK' => ?_) | refine vcStepD (by rfl) (fun K' hK' => ?_) | refine vcStepM (by rfl) (fun K' hK' => ?_) | refine vcStepG (by rfl) (by with_unfolding_all rfl) (fun hguard K' hK' => ?_) (fun hguard => ?_) | refine vcStepGD (by rfl) (by with_unfolding_all rfl) (fun hguard K' hK' => ?_) (fun hguard => ?_) | refine vcStepGM (by rfl) (by with_unfolding_all rfl) (fun hguard K' hK' => ?_) (fun hguard => ?_)) <;> ((try (replace hguard := hguard; (try simp only [decide_eq_true_eq, decide_eq_false_iff_not, Bool.not_eq_true', Bool.not_eq_false', Bool.not_true, Bool.not_false, Int.not_lt, Int.not_le, reduceCtorEq, Bool.true_eq_false, Bool.false_eq_true] at hguard); (try (exfalso; (try clear hK'); (try clear hK); omega)))) <;> ((try (simp +contextual only [go_sem, eRows_len])); (repeat' (first | ((with_reducible refine hK' _ _ ?_); clear hK'; clear K') | (with_reducible refine And.intro ?_ ?_) | ((with_reducible intro hpath); try first | (exfalso; (try clear hK'); (try clear hK); omega) | (exact absurd hpath (by assumption))) | ((with_reducible first | refine gi1 ?_ | refine gi2 ?_ | refine gn1 ?_ | refine gn2 ?_ | refine gi3 ?_ | refine gn3 ?_ | refine gnot ?_); omega) | (with_reducible exact True.intro) | ((refine hK' _ _ ?_); clear hK'; clear K'))); (try simp only [aput, List.set_cons_succ, List.set_cons_zero, List.length_cons, List.length_nil, List.length_append, List.cons_append, List.nil_append, Nat.reduceAdd, List.append_nil]))))
    | (with_reducible refine AWp.seq ?_)
    | (with_reducible refine AWp.block ?_)
    | (with_reducible refine AWp.skip ?_)
    | (with_reducible refine AWp.ret ?_)
    | (with_reducible refine AWp.exit ?_)
    | (refine AWp.cond _ rfl (fun hcond => ?_) (fun hcond => ?_) <;> first | (simp only [reduceCtorEq, Bool.true_eq_false, Bool.false_eq_true] at hcond; done) | (simp only [decide_eq_true_eq, decide_eq_false_iff_not, Bool.not_eq_true', Bool.not_eq_false', Int.not_lt, Int.not_le] at hcond; try (exfalso; omega)) | skip)
    | (with_reducible refine AThen.n ?_)
    | (with_reducible refine AThen.r ?_)
    | (with_reducible refine AThen.e ?_)
    | (with_reducible refine AInBlock.n ?_)
    | (with_reducible refine AInBlock.r ?_)
    | (with_reducible refine AInBlock.hit ?_)
    | (with_reducible refine AInBlock.miss (by with_unfolding_all decide) ?_))
  · have e : ¬ (g.n = h.n ∧ g.es = h.es) := fun e => by
      have := congrArg List.length e.2; omega
    simp [Rets, aret, Blk.cells, ty, Try.results25, ares, toT1, toT, borrow, borrow0, capCell, toTree0, tbool, e]
  · have hlm : g.es.length = h.es.length := by omega
    have hn : g.n = h.n := by omega
    refine AWp.loopx (α := Nat) (fun k => (⟨.c .any :: .c .any :: .c (.ptr 0 0) :: .c (.ptr 1 0) :: .c .any :: .c (.int .i64 (k : Int)) :: .c .any :: .c .any :: .c .any :: .c .any :: .c .any :: .c .any :: .c .any :: .c .any :: .c .any :: .c .any :: .c .any :: .c .any :: .c .any :: .c .any :: .c .any :: .c .any :: .c .any :: .c .any :: .c .any :: .c .any :: .c .any :: .c .any :: .c .any :: .c .any :: .c .any :: .c .any :: .c .any :: .c .any :: .c .any :: .c .any :: .c .any :: .c .any :: [], [.box [.int .i64 g.n, .slice (eRows g.es) .none], .box [.int .i64 h.n, .slice (eRows h.es) .none]]⟩ : St)) (fun k => k ≤ g.es.length ∧ ∀ j, j < k → g.es[j]? = h.es[j]?) (fun k => g.es.length - k) (0) (Weak.head2 (m := 2) (by omega) ((fun t f => [f, f, t, t, f, t, f, f, f, f, f, f, f, f, f, f, f, f, f, f, f, f, f, f, f, f, f, f, f, f, f, f, f, f, f, f, f, f]) true false) (by first | rfl | (simp [mask]; done) | (simp [mask] <;> omega)) (by first | rfl | (simp; done) | (simp <;> omega)) (by (repeat' (first | exact valsIn_nil _ | exact blksIn_nil _ | exact cellsIn_nil _ | refine And.intro ?_ ?_ | refine valsIn_cons ?_ ?_ | refine blksIn_cons ?_ ?_ | refine cellsIn_cons ?_ ?_ | exact True.intro | (show _ < _; omega) | exact cellsIn_map (fun _ => True.intro) | (intro c hc; cases hc; done) | (intro c hc; simp only [List.mem_cons, List.not_mem_nil, or_false] at hc; subst hc; exact True.intro))))) ?_ (fun k hI => ?_)
    · exact ⟨Nat.zero_le _, fun j hj => by omega⟩
    · obtain ⟨hk, hx⟩ := hI
      by_cases hlt : k < g.es.length
      · have hlt2 : k < h.es.length := by omega
        have e0 := List.getElem?_eq_getElem hlt
        have e0' := List.getElem?_eq_getElem hlt2
        have e1 := eRows_get e0
        have e2 := eRows_get e0'
        repeat' (first
          | (with_reducible refine AWp.seq_region (fun K hK => ?_))
          | (with_reducible refine AWp.last_region (fun K hK => ?_))
          | (with_reducible refine AWp.seq_draw (by with_unfolding_all kernel_rfl) (fun K hK => ?_))
          | (with_reducible refine AWp.last_draw (by with_unfolding_all kernel_rfl) (fun K hK => ?_))
          | ((with_reducible first | refine vcEnd ?_ | refine vcEndD ?_ | refine vcEndM ?_); refine hK _ _ ?_; clear hK; clear K)
          | ((with_reducible first | refine vcStepN (by rfl) (by with_unfolding_all rfl) ?_ | refine vcStepND (by rfl) (by with_unfolding_all rfl) ?_ | refine vcStepNM (by rfl) (by with_unfolding_all rfl) ?_); try simp only [aput, List.set_cons_succ, List.set_cons_zero, List.length_cons, List.length_nil, List.length_append, List.cons_append, List.nil_append, Nat.reduceAdd, List.append_nil])
          | ((with_reducible first | refine vcStep (by rfl) (fun K' hK' => ?_) | refine vcStepD (by rfl) (fun K' hK' => ?_) | refine vcStepM (by rfl) (fun K' hK' => ?_) | refine vcStepG (by rfl) (by with_unfolding_all rfl) (fun hguard K' hK' => ?_) (fun hguard => ?_) | refine vcStepGD (by rfl) (by with_unfolding_all rfl) (fun hguard K' hK' => ?_) (fun hguard => ?_) | refine vcStepGM (by rfl) (by with_unfolding_all rfl) (fun hguard K' hK' => ?_) (fun hguard => ?_)) <;> ((try (replace hguard := hguard; (try simp only [decide_eq_true_eq, decide_eq_false_iff_not, Bool.not_eq_true', Bool.not_eq_false', Bool.not_true, Bool.not_false, Int.not_lt, Int.not_le, reduceCtorEq, Bool.true_eq_false, Bool.false_eq_true] at hguard); (try (exfalso; (try clear hK'); (try clear hK); omega)))) <;> ((try (simp +contextual only [go_sem, e1, e2, Int.toNat_natCast, Int.ofNat_lt, eRows_len, cellInt])); (repeat' (first | ((with_reducible refine hK' _ _ ?_); clear hK'; clear K') | (refine ⟨_, _, rfl, rfl, eqInts71, rfl, ?_⟩) | (with_reducible refine And.intro ?_ ?_) | ((with_reducible intro hpath); try first | (exfalso; (try clear hK'); (try clear hK); omega) | (exact absurd hpath (by assumption))) | ((with_reducible first | refine gi1 ?_ | refine gi2 ?_ | refine gn1 ?_ | refine gn2 ?_ | refine gi3 ?_ | refine gn3 ?_ | refine gnot ?_); omega) | (with_reducible exact True.intro) | ((refine hK' _ _ ?_); clear hK'; clear K'))); (try simp only [aput, List.set_cons_succ, List.set_cons_zero, List.length_cons, List.length_nil, List.length_append, List.cons_append, List.nil_append, Nat.reduceAdd, List.append_nil]))))
          | (with_reducible refine AWp.seq ?_)
          | (with_reducible refine AWp.block ?_)
          | (with_reducible refine AWp.skip ?_)
          | (with_reducible refine AWp.ret ?_)
          | (with_reducible refine AWp.exit ?_)
          | (refine AWp.cond _ rfl (fun hcond => ?_) (fun hcond => ?_) <;> first | (simp only [reduceCtorEq, Bool.true_eq_false, Bool.false_eq_true] at hcond; done) | (simp only [decide_eq_true_eq, decide_eq_false_iff_not, Bool.not_eq_true', Bool.not_eq_false', Int.not_lt, Int.not_le] at hcond; try (exfalso; omega)) | skip)
          | (with_reducible refine AThen.n ?_)
          | (with_reducible refine AThen.r ?_)
          | (with_reducible refine AThen.e ?_)
          | (with_reducible refine AInBlock.n ?_)
          | (with_reducible refine AInBlock.r ?_)
          | (with_reducible refine AInBlock.hit ?_)
          | (with_reducible refine AInBlock.miss (by with_unfolding_all decide) ?_))
        · have e : ¬ (g.n = h.n ∧ g.es = h.es) := fun e => by
            have := e.2; simp_all
          simp [Rets, aret, Blk.cells, ty, Try.results25, ares, toT1, toT, borrow, borrow0, capCell, toTree0, tbool, e]
        · refine ⟨k + 1, Weak.head2 (m := 2) (by omega) ((fun t f => [f, f, t, t, f, t, f, f, f, f, f, f, f, f, f, f, f, f, f, f, f, f, f, f, f, f, f, f, f, f, f, f, f, f, f, f, f, f]) true false) (by first | rfl | (simp [mask]; done) | (simp [mask] <;> simp_all <;> omega)) (by first | rfl | (simp [mask]; done) | (simp [mask] <;> simp_all <;> omega)) (by (repeat' (first | exact valsIn_nil _ | exact blksIn_nil _ | exact cellsIn_nil _ | refine And.intro ?_ ?_ | refine valsIn_cons ?_ ?_ | refine blksIn_cons ?_ ?_ | refine cellsIn_cons ?_ ?_ | exact True.intro | (show _ < _; omega) | exact cellsIn_map (fun _ => True.intro) | (intro c hc; cases hc; done) | (intro c hc; simp only [List.mem_cons, List.not_mem_nil, or_false] at hc; subst hc; exact True.intro)))), ?_, ?_⟩
          · refine ⟨hlt, fun j hj => ?_⟩
            by_cases hjk : j = k
            · subst hjk
              rw [e0, e0']
              cases hg : g.es[j]; cases hh : h.es[j]
              simp_all
            · exact hx j (by omega)
          · omega
      · have e : g.n = h.n ∧ g.es = h.es := ⟨hn, List.ext_getElem? fun j => by
          by_cases hj : j < g.es.length
          · exact hx j (by omega)
          · rw [List.getElem?_eq_none (by omega), List.getElem?_eq_none (by omega)]⟩
        repeat' (first
          | (with_reducible refine AWp.seq_region (fun K hK => ?_))
          | (with_reducible refine AWp.last_region (fun K hK => ?_))
          | (with_reducible refine AWp.seq_draw (by with_unfolding_all kernel_rfl) (fun K hK => ?_))
          | (with_reducible refine AWp.last_draw (by with_unfolding_all kernel_rfl) (fun K hK => ?_))
          | ((with_reducible first | refine vcEnd ?_ | refine vcEndD ?_ | refine vcEndM ?_); refine hK _ _ ?_; clear hK; clear K)
          | ((with_reducible first | refine vcStepN (by rfl) (by with_unfolding_all rfl) ?_ | refine vcStepND (by rfl) (by with_unfolding_all rfl) ?_ | refine vcStepNM (by rfl) (by with_unfolding_all rfl) ?_); try simp only [aput, List.set_cons_succ, List.set_cons_zero, List.length_cons, List.length_nil, List.length_append, List.cons_append, List.nil_append, Nat.reduceAdd, List.append_nil])
          | ((with_reducible first | refine vcStep (by rfl) (fun K' hK' => ?_) | refine vcStepD (by rfl) (fun K' hK' => ?_) | refine vcStepM (by rfl) (fun K' hK' => ?_) | refine vcStepG (by rfl) (by with_unfolding_all rfl) (fun hguard K' hK' => ?_) (fun hguard => ?_) | refine vcStepGD (by rfl) (by with_unfolding_all rfl) (fun hguard K' hK' => ?_) (fun hguard => ?_) | refine vcStepGM (by rfl) (by with_unfolding_all rfl) (fun hguard K' hK' => ?_) (fun hguard => ?_)) <;> ((try (replace hguard := hguard; (try simp only [decide_eq_true_eq, decide_eq_false_iff_not, Bool.not_eq_true', Bool.not_eq_false', Bool.not_true, Bool.not_false, Int.not_lt, Int.not_le, reduceCtorEq, Bool.true_eq_false, Bool.false_eq_true] at hguard); (try (exfalso; (try clear hK'); (try clear hK); omega)))) <;> ((try (simp +contextual only [go_sem, Int.ofNat_lt, eRows_len])); (repeat' (first | ((with_reducible refine hK' _ _ ?_); clear hK'; clear K') | (with_reducible refine And.intro ?_ ?_) | ((with_reducible intro hpath); try first | (exfalso; (try clear hK'); (try clear hK); omega) | (exact absurd hpath (by assumption))) | ((with_reducible first | refine gi1 ?_ | refine gi2 ?_ | refine gn1 ?_ | refine gn2 ?_ | refine gi3 ?_ | refine gn3 ?_ | refine gnot ?_); omega) | (with_reducible exact True.intro) | ((refine hK' _ _ ?_); clear hK'; clear K'))); (try simp only [aput, List.set_cons_succ, List.set_cons_zero, List.length_cons, List.length_nil, List.length_append, List.cons_append, List.nil_append, Nat.reduceAdd, List.append_nil]))))
          | (with_reducible refine AWp.seq ?_)
          | (with_reducible refine AWp.block ?_)
          | (with_reducible refine AWp.skip ?_)
          | (with_reducible refine AWp.ret ?_)
          | (with_reducible refine AWp.exit ?_)
          | (refine AWp.cond _ rfl (fun hcond => ?_) (fun hcond => ?_) <;> first | (simp only [reduceCtorEq, Bool.true_eq_false, Bool.false_eq_true] at hcond; done) | (simp only [decide_eq_true_eq, decide_eq_false_iff_not, Bool.not_eq_true', Bool.not_eq_false', Int.not_lt, Int.not_le] at hcond; try (exfalso; omega)) | skip)
          | (with_reducible refine AThen.n ?_)
          | (with_reducible refine AThen.r ?_)
          | (with_reducible refine AThen.e ?_)
          | (with_reducible refine AInBlock.n ?_)
          | (with_reducible refine AInBlock.r ?_)
          | (with_reducible refine AInBlock.hit ?_)
          | (with_reducible refine AInBlock.miss (by with_unfolding_all decide) ?_))
        simp [Rets, aret, Blk.cells, ty, Try.results25, ares, toT1, toT, borrow, borrow0, capCell, toTree0, tbool, e]
  · have e : ¬ (g.n = h.n ∧ g.es = h.es) := fun e => by omega
    simp [Rets, aret, Blk.cells, ty, Try.results25, ares, toT1, toT, borrow, borrow0, capCell, toTree0, tbool, e]
end Go.Proofs.Ytbdpkgckdkpepaa
