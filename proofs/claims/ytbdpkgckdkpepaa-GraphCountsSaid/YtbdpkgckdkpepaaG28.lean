/- A part of the proof: contracts of functions of the program, or plain lemmas. -/
import Derived.Test.YtbdpkgckdkpepaaG31
import Derived.Test.YtbdpkgckdkpepaaG23
import Derived.Test.YtbdpkgckdkpepaaG22
set_option linter.all false
namespace Go.Proofs.Ytbdpkgckdkpepaa
open Go.Sp
set_option linter.unusedSimpArgs false
set_option linter.unusedVariables false
set_option maxHeartbeats 4000000
set_option maxRecDepth 100000


theorem BetweenR_ok (g : G) (a b : Int) (hl : g.es.length < 2 ^ 40) : ACall Try.prog 43 [tG g, tint a, tint b] (tint (cntL g.es (min a b) (max a b))) := by
  refine ACall.of_body Try.func43 rfl (by kernel_rfl) ?_
  simp only [entry, Try.ntmps43, ofT, ofT1, ofTree, List.map_cons, List.map_nil, List.length_cons, List.length_nil, Nat.reduceAdd, Nat.reduceSub, List.replicate_succ, List.replicate_zero, List.cons_append, List.nil_append, tG, tint]
  repeat' (first
    | (with_reducible refine AWp.seq_region (fun K hK => ?_))
    | (with_reducible refine AWp.last_region (fun K hK => ?_))
    | (with_reducible refine AWp.seq_draw (by with_unfolding_all kernel_rfl) (fun K hK => ?_))
    | (with_reducible refine AWp.last_draw (by with_unfolding_all kernel_rfl) (fun K hK => ?_))
    | ((with_reducible first | refine vcEnd ?_ | refine vcEndD ?_ | refine vcEndM ?_); refine hK _ _ ?_; clear hK; clear K)
    | ((with_reducible first | refine vcStepN (by rfl) (by with_unfolding_all rfl) ?_ | refine vcStepND (by rfl) (by with_unfolding_all rfl) ?_ | refine vcStepNM (by rfl) (by with_unfolding_all rfl) ?_); try simp only [aput, List.set_cons_succ, List.set_cons_zero, List.length_cons, List.length_nil, List.length_append, List.cons_append, List.nil_append, Nat.reduceAdd, List.append_nil])
    | ((with_reducible first | refine vcStep (by rfl) (fun K' hK' => ?_) | refine vcStepD (by rfl) (fun K' hK' => ?_) | refine vcStepM (by rfl) (fun K' hK' => ?_) | refine vcStepG (by rfl) (by with_unfolding_all rfl) (fun hguard K' hK' => ?_) (fun hguard => ?_) | refine vcStepGD (by rfl) (by with_unfolding_all rfl) (fun hguard K' hK' => ?_) (fun hguard => ?_) | refine vcStepGM (by rfl) (by with_unfolding_all rfl) (fun hguard K' hK' => ?_) (fun hguard => ?_)) <;> ((try (replace hguard := hguard; (try simp only [decide_eq_true_eq, decide_eq_false_iff_not, Bool.not_eq_true', Bool.not_eq_false', Bool.not_true, Bool.not_false, Int.not_lt, Int.not_le, reduceCtorEq, Bool.true_eq_false, Bool.false_eq_true] at hguard); (try (exfalso; (try clear hK'); (try clear hK); omega)))) <;> ((try (simp +contextual only [Nat.reduceAdd, Nat.reduceSub, Nat.reduceMul, Nat.reduceLeDiff, Nat.reduceLT, Int.reduceToNat, Int.reduceLT, Int.reduceLE, Int.reduceNeg, reduceCtorEq, Nat.reduceEqDiff, go_sem])); (repeat' (first | ((with_reducible refine hK' _ _ ?_); clear hK'; clear K') | (with_reducible refine And.intro ?_ ?_) | ((with_reducible intro hpath); try first | (exfalso; (try clear hK'); (try clear hK); omega) | (exact absurd hpath (by assumption))) | ((with_reducible first | refine gi1 ?_ | refine gi2 ?_ | refine gn1 ?_ | refine gn2 ?_ | refine gi3 ?_ | refine gn3 ?_ | refine gnot ?_); omega) | (with_reducible exact True.intro) | ((refine hK' _ _ ?_); clear hK'; clear K'))); (try simp only [aput, List.set_cons_succ, List.set_cons_zero, List.length_cons, List.length_nil, List.length_append, List.cons_append, List.nil_append, Nat.reduceAdd, List.append_nil]))))
    | (with_reducible refine AWp.seq ?_)
    | (with_reducible refine AWp.block ?_)
    | (with_reducible refine AWp.skip ?_)
    | (with_reducible refine AWp.ret ?_)
    | (with_reducible refine AWp.exit ?_)
    | (refine AWp.cond _ rfl (fun hcond => ?_) (fun hcond => ?_) <;> first | (simp only [reduceCtorEq, Bool.true_eq_false, Bool.false_eq_true] at hcond; done) | (simp only [decide_eq_true_eq, decide_eq_false_iff_not, Bool.not_eq_true', Bool.not_eq_false', Int.not_lt, Int.not_le] at hcond; try (exfalso; omega)) | skip)
    | (with_reducible refine AThen.n ?_)
    | (with_reducible refine AThen.r ?_)
    | (with_reducible refine AThen.e ?_)
    | (with_reducible refine AInBlock.n ?_)
    | (with_reducible refine AInBlock.r ?_)
    | (with_reducible refine AInBlock.hit ?_)
    | (with_reducible refine AInBlock.miss (by with_unfolding_all decide) ?_))
  refine AWp.loopx (α := Nat) (fun i => (⟨.c .any :: .c (.int .i64 a) :: .c (.int .i64 b) :: .c (.ptr 0 0) :: .c .any :: .c .any :: .c .any :: .c (.int .i64 (i : Int)) :: .c .any :: .c .any :: .c .any :: .c .any :: .c .any :: .c .any :: .c .any :: .c .any :: .c .any :: .c .any :: .c .any :: .c .any :: .c .any :: .c .any :: .c .any :: .c .any :: .c .any :: .c .any :: .c .any :: .c .any :: .c .any :: .c .any :: .c .any :: .c .any :: .c .any :: .c .any :: .c .any :: .c .any :: .c .any :: [], [.box [.int .i64 g.n, .slice (eRows g.es) .none]]⟩ : St)) (fun i => i ≤ g.es.length ∧ cntL g.es (min a b) (max a b) = cntL (g.es.drop i) (min a b) (max a b)) (fun i => g.es.length - i) (0) (Weak.head2 (m := 1) (by omega) [false, true, true, true, false, false, false, true, false, false, false, false, false, false, false, false, false, false, false, false, false, false, false, false, false, false, false, false, false, false, false, false, false, false, false, false, false] (by first | rfl | (simp [mask]; done) | (simp [mask] <;> omega)) (by first | rfl | (simp; done) | (simp <;> omega)) (by (repeat' (first | exact valsIn_nil _ | exact blksIn_nil _ | exact cellsIn_nil _ | refine And.intro ?_ ?_ | refine valsIn_cons ?_ ?_ | refine blksIn_cons ?_ ?_ | refine cellsIn_cons ?_ ?_ | exact True.intro | (show _ < _; omega) | exact cellsIn_map (fun _ => True.intro) | (intro c hc; cases hc; done) | (intro c hc; simp only [List.mem_cons, List.not_mem_nil, or_false] at hc; subst hc; exact True.intro))))) ?_ (fun i hI => ?_)
  · exact ⟨Nat.zero_le _, rfl⟩
  · obtain ⟨hi, hx⟩ := hI
    by_cases hlt : i < g.es.length
    · have e1 := eRows_get (List.getElem?_eq_getElem hlt)
      rw [List.drop_eq_getElem_cons hlt, cntL] at hx
      generalize hy : g.es[i] = x at *
      repeat' (first
        | (with_reducible refine AWp.seq_region (fun K hK => ?_))
        | (with_reducible refine AWp.last_region (fun K hK => ?_))
        | (with_reducible refine AWp.seq_draw (by with_unfolding_all kernel_rfl) (fun K hK => ?_))
        | (with_reducible refine AWp.last_draw (by with_unfolding_all kernel_rfl) (fun K hK => ?_))
        | ((with_reducible first | refine vcEnd ?_ | refine vcEndD ?_ | refine vcEndM ?_); refine hK _ _ ?_; clear hK; clear K)
        | ((with_reducible first | refine vcStepN (by rfl) (by with_unfolding_all rfl) ?_ | refine vcStepND (by rfl) (by with_unfolding_all rfl) ?_ | refine vcStepNM (by rfl) (by with_unfolding_all rfl) ?_); try simp only [aput, List.set_cons_succ, List.set_cons_zero, List.length_cons, List.length_nil, List.length_append, List.cons_append, List.nil_append, Nat.reduceAdd, List.append_nil])
        | ((with_reducible first | refine vcStep (by rfl) (fun K' hK' => ?_) | refine vcStepD (by rfl) (fun K' hK' => ?_) | refine vcStepM (by rfl) (fun K' hK' => ?_) | refine vcStepG (by rfl) (by with_unfolding_all rfl) (fun hguard K' hK' => ?_) (fun hguard => ?_) | refine vcStepGD (by rfl) (by with_unfolding_all rfl) (fun hguard K' hK' => ?_) (fun hguard => ?_) | refine vcStepGM (by rfl) (by with_unfolding_all rfl) (fun hguard K' hK' => ?_) (fun hguard => ?_)) <;> ((try (replace hguard := hguard; (try simp only [decide_eq_true_eq, decide_eq_false_iff_not, Bool.not_eq_true', Bool.not_eq_false', Bool.not_true, Bool.not_false, Int.not_lt, Int.not_le, reduceCtorEq, Bool.true_eq_false, Bool.false_eq_true] at hguard); (try (exfalso; (try clear hK'); (try clear hK); omega)))) <;> ((try (simp +contextual only [Nat.reduceAdd, Nat.reduceSub, Nat.reduceMul, Nat.reduceLeDiff, Nat.reduceLT, Int.reduceToNat, Int.reduceLT, Int.reduceLE, Int.reduceNeg, reduceCtorEq, Nat.reduceEqDiff, go_sem, e1, eRows_len, Int.toNat_natCast, Int.ofNat_lt])); (repeat' (first | ((with_reducible refine hK' _ _ ?_); clear hK'; clear K') | (with_reducible refine And.intro ?_ ?_) | ((with_reducible intro hpath); try first | (exfalso; (try clear hK'); (try clear hK); omega) | (exact absurd hpath (by assumption))) | ((with_reducible first | refine gi1 ?_ | refine gi2 ?_ | refine gn1 ?_ | refine gn2 ?_ | refine gi3 ?_ | refine gn3 ?_ | refine gnot ?_); omega) | (with_reducible exact True.intro) | ((refine hK' _ _ ?_); clear hK'; clear K'))); (try simp only [aput, List.set_cons_succ, List.set_cons_zero, List.length_cons, List.length_nil, List.length_append, List.cons_append, List.nil_append, Nat.reduceAdd, List.append_nil]))))
        | (with_reducible refine AWp.seq ?_)
        | (with_reducible refine AWp.block ?_)
        | (with_reducible refine AWp.skip ?_)
        | (with_reducible refine AWp.ret ?_)
        | (with_reducible refine AWp.exit ?_)
        | (refine AWp.cond _ rfl (fun hcond => ?_) (fun hcond => ?_) <;> first | (simp only [reduceCtorEq, Bool.true_eq_false, Bool.false_eq_true] at hcond; done) | (simp only [decide_eq_true_eq, decide_eq_false_iff_not, Bool.not_eq_true', Bool.not_eq_false', Int.not_lt, Int.not_le] at hcond; try (exfalso; omega)) | skip)
        | (with_reducible refine AThen.n ?_)
        | (with_reducible refine AThen.r ?_)
        | (with_reducible refine AThen.e ?_)
        | (with_reducible refine AInBlock.n ?_)
        | (with_reducible refine AInBlock.r ?_)
        | (with_reducible refine AInBlock.hit ?_)
        | (with_reducible refine AInBlock.miss (by with_unfolding_all decide) ?_))
      · rw [if_pos ⟨by omega, by omega⟩] at hx
        simp [Rets, aret, Blk.cells, ty, Try.results43, ares, toT1, toT, borrow, borrow0, capCell, toTree0, tint, hx]
      all_goals
        rw [if_neg (by omega)] at hx
        refine ⟨i + 1, Weak.head2 (m := 1) (by omega) [false, true, true, true, false, false, false, true, false, false, false, false, false, false, false, false, false, false, false, false, false, false, false, false, false, false, false, false, false, false, false, false, false, false, false, false, false] (by first | rfl | (simp [mask]; done) | (simp [mask] <;> simp_all <;> omega)) (by first | rfl | (simp [mask]; done) | (simp [mask] <;> simp_all <;> omega)) (by (repeat' (first | exact valsIn_nil _ | exact blksIn_nil _ | exact cellsIn_nil _ | refine And.intro ?_ ?_ | refine valsIn_cons ?_ ?_ | refine blksIn_cons ?_ ?_ | refine cellsIn_cons ?_ ?_ | exact True.intro | (show _ < _; omega) | exact cellsIn_map (fun _ => True.intro) | (intro c hc; cases hc; done) | (intro c hc; simp only [List.mem_cons, List.not_mem_nil, or_false] at hc; subst hc; exact True.intro)))), ?_, ?_⟩
        · exact ⟨hlt, hx⟩
        · omega
    · have ei : i = g.es.length := by omega
      have h0 : cntL g.es (min a b) (max a b) = 0 := by rw [hx, ei, List.drop_length, cntL]
      repeat' (first
        | (with_reducible refine AWp.seq_region (fun K hK => ?_))
        | (with_reducible refine AWp.last_region (fun K hK => ?_))
        | (with_reducible refine AWp.seq_draw (by with_unfolding_all kernel_rfl) (fun K hK => ?_))
        | (with_reducible refine AWp.last_draw (by with_unfolding_all kernel_rfl) (fun K hK => ?_))
        | ((with_reducible first | refine vcEnd ?_ | refine vcEndD ?_ | refine vcEndM ?_); refine hK _ _ ?_; clear hK; clear K)
        | ((with_reducible first | refine vcStepN (by rfl) (by with_unfolding_all rfl) ?_ | refine vcStepND (by rfl) (by with_unfolding_all rfl) ?_ | refine vcStepNM (by rfl) (by with_unfolding_all rfl) ?_); try simp only [aput, List.set_cons_succ, List.set_cons_zero, List.length_cons, List.length_nil, List.length_append, List.cons_append, List.nil_append, Nat.reduceAdd, List.append_nil])
        | ((with_reducible first | refine vcStep (by rfl) (fun K' hK' => ?_) | refine vcStepD (by rfl) (fun K' hK' => ?_) | refine vcStepM (by rfl) (fun K' hK' => ?_) | refine vcStepG (by rfl) (by with_unfolding_all rfl) (fun hguard K' hK' => ?_) (fun hguard => ?_) | refine vcStepGD (by rfl) (by with_unfolding_all rfl) (fun hguard K' hK' => ?_) (fun hguard => ?_) | refine vcStepGM (by rfl) (by with_unfolding_all rfl) (fun hguard K' hK' => ?_) (fun hguard => ?_)) <;> ((try (replace hguard := hguard; (try simp only [decide_eq_true_eq, decide_eq_false_iff_not, Bool.not_eq_true', Bool.not_eq_false', Bool.not_true, Bool.not_false, Int.not_lt, Int.not_le, reduceCtorEq, Bool.true_eq_false, Bool.false_eq_true] at hguard); (try (exfalso; (try clear hK'); (try clear hK); omega)))) <;> ((try (simp +contextual only [Nat.reduceAdd, Nat.reduceSub, Nat.reduceMul, Nat.reduceLeDiff, Nat.reduceLT, Int.reduceToNat, Int.reduceLT, Int.reduceLE, Int.reduceNeg, reduceCtorEq, Nat.reduceEqDiff, go_sem, eRows_len, Int.ofNat_lt])); (repeat' (first | ((with_reducible refine hK' _ _ ?_); clear hK'; clear K') | (with_reducible refine And.intro ?_ ?_) | ((with_reducible intro hpath); try first | (exfalso; (try clear hK'); (try clear hK); omega) | (exact absurd hpath (by assumption))) | ((with_reducible first | refine gi1 ?_ | refine gi2 ?_ | refine gn1 ?_ | refine gn2 ?_ | refine gi3 ?_ | refine gn3 ?_ | refine gnot ?_); omega) | (with_reducible exact True.intro) | ((refine hK' _ _ ?_); clear hK'; clear K'))); (try simp only [aput, List.set_cons_succ, List.set_cons_zero, List.length_cons, List.length_nil, List.length_append, List.cons_append, List.nil_append, Nat.reduceAdd, List.append_nil]))))
        | (with_reducible refine AWp.seq ?_)
        | (with_reducible refine AWp.block ?_)
        | (with_reducible refine AWp.skip ?_)
        | (with_reducible refine AWp.ret ?_)
        | (with_reducible refine AWp.exit ?_)
        | (refine AWp.cond _ rfl (fun hcond => ?_) (fun hcond => ?_) <;> first | (simp only [reduceCtorEq, Bool.true_eq_false, Bool.false_eq_true] at hcond; done) | (simp only [decide_eq_true_eq, decide_eq_false_iff_not, Bool.not_eq_true', Bool.not_eq_false', Int.not_lt, Int.not_le] at hcond; try (exfalso; omega)) | skip)
        | (with_reducible refine AThen.n ?_)
        | (with_reducible refine AThen.r ?_)
        | (with_reducible refine AThen.e ?_)
        | (with_reducible refine AInBlock.n ?_)
        | (with_reducible refine AInBlock.r ?_)
        | (with_reducible refine AInBlock.hit ?_)
        | (with_reducible refine AInBlock.miss (by with_unfolding_all decide) ?_))
      simp [Rets, aret, Blk.cells, ty, Try.results43, ares, toT1, toT, borrow, borrow0, capCell, toTree0, tint, h0]
def valR (es : List E) (v : Int) (n : Nat) : Int := sumR (fun u => if (u : Int) = v then 0 else cntL es (min (u : Int) v) (max (u : Int) v)) n
theorem cnt_bound {g : G} (hc : checkG g = 0) (a b : Int) : 0 ≤ cntL g.es a b ∧ cntL g.es a b ≤ 50 := by
  have hmul := (checkG_zero.1 hc).2.1
  exact ⟨cntL_ge fun e he => by have := hmul e he; unfold okE at this; omega, cntL_le (fun e he => by have := hmul e he; unfold okE at this; omega) (by omega)⟩
theorem valR_val {g : G} {n : Nat} (hc : checkG g = 0) (hn : g.n = n) {v : Int} (hv : 0 ≤ v ∧ v < n) : valR g.es v n = valL v g.es := by
  have h1 := (handshake hc hn).2.2 v
  have h2 : sumR (fun u => cntL g.es (min v u) (max v u)) n = valR g.es v n + sumR (fun u => if (u : Int) = v then cntL g.es v v else 0) n := by
    unfold valR
    rw [← sumR_add]
    refine sumR_congr fun i _ => ?_
    by_cases e : (i : Int) = v
    · rw [if_pos e, if_pos e, e, Int.min_self, Int.max_self]; omega
    · rw [if_neg e, if_neg e, Int.min_comm, Int.max_comm]; omega
  rw [sumR_one hv.1 hv.2] at h2
  omega
theorem ValenceR_ok (g : G) (n : Nat) (hc : checkG g = 0) (hn : g.n = n) (hl : g.es.length < 2 ^ 30) (v : Int) : ACall Try.prog 45 [tG g, tint v] (tint (valR g.es v n)) := by
  have hn12 := (checkG_zero.1 hc).1
  have hVb : ∀ u, u ≤ n → 0 ≤ valR g.es v u ∧ valR g.es v u ≤ 600 := fun u hu => by
    have := sumR_bound (f := fun u => if (u : Int) = v then 0 else cntL g.es (min (u : Int) v) (max (u : Int) v)) (n := u) (k := 50) (fun i _ => by have := cnt_bound hc (min (i : Int) v) (max (i : Int) v); (try simp only); split <;> omega)
    unfold valR; omega
  refine ACall.of_body Try.func45 rfl (by kernel_rfl) ?_
  simp only [entry, Try.ntmps45, ofT, ofT1, ofTree, List.map_cons, List.map_nil, List.length_cons, List.length_nil, Nat.reduceAdd, Nat.reduceSub, List.replicate_succ, List.replicate_zero, List.cons_append, List.nil_append, tG, tint]
  repeat' (first
    | (with_reducible refine AWp.seq_region (fun K hK => ?_))
    | (with_reducible refine AWp.last_region (fun K hK => ?_))
    | (with_reducible refine AWp.seq_draw (by with_unfolding_all kernel_rfl) (fun K hK => ?_))
    | (with_reducible refine AWp.last_draw (by with_unfolding_all kernel_rfl) (fun K hK => ?_))
    | ((with_reducible first | refine vcEnd ?_ | refine vcEndD ?_ | refine vcEndM ?_); refine hK _ _ ?_; clear hK; clear K)
    | ((with_reducible first | refine vcStepN (by rfl) (by with_unfolding_all rfl) ?_ | refine vcStepND (by rfl) (by with_unfolding_all rfl) ?_ | refine vcStepNM (by rfl) (by with_unfolding_all rfl) ?_); try simp only [aput, List.set_cons_succ, List.set_cons_zero, List.length_cons, List.length_nil, List.length_append, List.cons_append, List.nil_append, Nat.reduceAdd, List.append_nil])
    | ((with_reducible first | refine vcStep (by rfl) (fun K' hK' => ?_) | refine vcStepD (by rfl) (fun K' hK' => ?_) | refine vcStepM (by rfl) (fun K' hK' => ?_) | refine vcStepG (by rfl) (by with_unfolding_all rfl) (fun hguard K' hK' => ?_) (fun hguard => ?_) | refine vcStepGD (by rfl) (by with_unfolding_all rfl) (fun hguard K' hK' => ?_) (fun hguard => ?_) | refine vcStepGM (by rfl) (by with_unfolding_all rfl) (fun hguard K' hK' => ?_) (fun hguard => ?_)) <;> ((try (replace hguard := hguard; (try simp only [decide_eq_true_eq, decide_eq_false_iff_not, Bool.not_eq_true', Bool.not_eq_false', Bool.not_true, Bool.not_false, Int.not_lt, Int.not_le, reduceCtorEq, Bool.true_eq_false, Bool.false_eq_true] at hguard); (try (exfalso; (try clear hK'); (try clear hK); omega)))) <;> ((try (simp +contextual only [Nat.reduceAdd, Nat.reduceSub, Nat.reduceMul, Nat.reduceLeDiff, Nat.reduceLT, Int.reduceToNat, Int.reduceLT, Int.reduceLE, Int.reduceNeg, reduceCtorEq, Nat.reduceEqDiff, go_sem])); (repeat' (first | ((with_reducible refine hK' _ _ ?_); clear hK'; clear K') | (with_reducible refine And.intro ?_ ?_) | ((with_reducible intro hpath); try first | (exfalso; (try clear hK'); (try clear hK); omega) | (exact absurd hpath (by assumption))) | ((with_reducible first | refine gi1 ?_ | refine gi2 ?_ | refine gn1 ?_ | refine gn2 ?_ | refine gi3 ?_ | refine gn3 ?_ | refine gnot ?_); omega) | (with_reducible exact True.intro) | ((refine hK' _ _ ?_); clear hK'; clear K'))); (try simp only [aput, List.set_cons_succ, List.set_cons_zero, List.length_cons, List.length_nil, List.length_append, List.cons_append, List.nil_append, Nat.reduceAdd, List.append_nil]))))
    | (with_reducible refine AWp.seq ?_)
    | (with_reducible refine AWp.block ?_)
    | (with_reducible refine AWp.skip ?_)
    | (with_reducible refine AWp.ret ?_)
    | (with_reducible refine AWp.exit ?_)
    | (refine AWp.cond _ rfl (fun hcond => ?_) (fun hcond => ?_) <;> first | (simp only [reduceCtorEq, Bool.true_eq_false, Bool.false_eq_true] at hcond; done) | (simp only [decide_eq_true_eq, decide_eq_false_iff_not, Bool.not_eq_true', Bool.not_eq_false', Int.not_lt, Int.not_le] at hcond; try (exfalso; omega)) | skip)
    | (with_reducible refine AThen.n ?_)
    | (with_reducible refine AThen.r ?_)
    | (with_reducible refine AThen.e ?_)
    | (with_reducible refine AInBlock.n ?_)
    | (with_reducible refine AInBlock.r ?_)
    | (with_reducible refine AInBlock.hit ?_)
    | (with_reducible refine AInBlock.miss (by with_unfolding_all decide) ?_))
  refine AWp.loopx (α := Nat) (fun u => (⟨.c .any :: .c (.int .i64 v) :: .c (.ptr 0 0) :: .c .any :: .c .any :: .c (.int .i64 (valR g.es v u)) :: .c (.int .i64 (u : Int)) :: .c .any :: .c .any :: .c .any :: .c .any :: .c .any :: .c .any :: .c .any :: .c .any :: .c .any :: .c .any :: .c .any :: .c .any :: .c .any :: .c .any :: .c .any :: .c .any :: [], [.box [.int .i64 g.n, .slice (eRows g.es) .none]]⟩ : St)) (fun u => u ≤ n) (fun u => n - u) (0) (Weak.head2 (m := 1) (by omega) [false, true, true, false, false, true, true, false, false, false, false, false, false, false, false, false, false, false, false, false, false, false, false] (by first | rfl | (simp [mask]; done) | (simp [mask] <;> omega)) (by first | rfl | (simp; done) | (simp <;> omega)) (by (repeat' (first | exact valsIn_nil _ | exact blksIn_nil _ | exact cellsIn_nil _ | refine And.intro ?_ ?_ | refine valsIn_cons ?_ ?_ | refine blksIn_cons ?_ ?_ | refine cellsIn_cons ?_ ?_ | exact True.intro | (show _ < _; omega) | exact cellsIn_map (fun _ => True.intro) | (intro c hc; cases hc; done) | (intro c hc; simp only [List.mem_cons, List.not_mem_nil, or_false] at hc; subst hc; exact True.intro))))) ?_ (fun u hI => ?_)
  · exact Nat.zero_le _
  · have hun : u ≤ n := hI
    clear hI
    by_cases hlt : u < n
    · have hltI : (u : Int) < g.n := by omega
      have hb := BetweenR_ok g u v (by omega)
      have hcb := cnt_bound hc (min (u : Int) v) (max (u : Int) v)
      have hV := hVb u hun
      have hV1 : valR g.es v (u + 1) = valR g.es v u + (if (u : Int) = v then 0 else cntL g.es (min (u : Int) v) (max (u : Int) v)) := rfl
      generalize valR g.es v u = S at *
      generalize cntL g.es (min (u : Int) v) (max (u : Int) v) = k at *
      repeat' (first
        | (with_reducible refine AWp.seq_region (fun K hK => ?_))
        | (with_reducible refine AWp.last_region (fun K hK => ?_))
        | (with_reducible refine AWp.seq_draw (by with_unfolding_all kernel_rfl) (fun K hK => ?_))
        | (with_reducible refine AWp.last_draw (by with_unfolding_all kernel_rfl) (fun K hK => ?_))
        | ((with_reducible first | refine vcEnd ?_ | refine vcEndD ?_ | refine vcEndM ?_); refine hK _ _ ?_; clear hK; clear K)
        | ((with_reducible first | refine vcStepN (by rfl) (by with_unfolding_all rfl) ?_ | refine vcStepND (by rfl) (by with_unfolding_all rfl) ?_ | refine vcStepNM (by rfl) (by with_unfolding_all rfl) ?_); try simp only [aput, List.set_cons_succ, List.set_cons_zero, List.length_cons, List.length_nil, List.length_append, List.cons_append, List.nil_append, Nat.reduceAdd, List.append_nil])
        | ((with_reducible first | refine vcStep (by rfl) (fun K' hK' => ?_) | refine vcStepD (by rfl) (fun K' hK' => ?_) | refine vcStepM (by rfl) (fun K' hK' => ?_) | refine vcStepG (by rfl) (by with_unfolding_all rfl) (fun hguard K' hK' => ?_) (fun hguard => ?_) | refine vcStepGD (by rfl) (by with_unfolding_all rfl) (fun hguard K' hK' => ?_) (fun hguard => ?_) | refine vcStepGM (by rfl) (by with_unfolding_all rfl) (fun hguard K' hK' => ?_) (fun hguard => ?_)) <;> ((try (replace hguard := hguard; (try simp only [decide_eq_true_eq, decide_eq_false_iff_not, Bool.not_eq_true', Bool.not_eq_false', Bool.not_true, Bool.not_false, Int.not_lt, Int.not_le, reduceCtorEq, Bool.true_eq_false, Bool.false_eq_true] at hguard); (try (exfalso; (try clear hK'); (try clear hK); omega)))) <;> ((try (simp +contextual only [Nat.reduceAdd, Nat.reduceSub, Nat.reduceMul, Nat.reduceLeDiff, Nat.reduceLT, Int.reduceToNat, Int.reduceLT, Int.reduceLE, Int.reduceNeg, reduceCtorEq, Nat.reduceEqDiff, go_sem, hltI])); (repeat' (first | ((with_reducible refine hK' _ _ ?_); clear hK'; clear K') | ((with_reducible first | refine ⟨_, _, ACall.h (hb) (by with_unfolding_all rfl), ?_⟩ | refine ⟨_, ACall.h (hb) (by with_unfolding_all rfl), ?_⟩ | refine ⟨_, _, ACall.hb (hb) (by with_unfolding_all rfl) (by with_unfolding_all rfl), ?_⟩ | refine ⟨_, ACall.hb (hb) (by with_unfolding_all rfl) (by with_unfolding_all rfl), ?_⟩); (try simp +contextual only [Nat.reduceAdd, Nat.reduceSub, Nat.reduceMul, Nat.reduceLeDiff, Nat.reduceLT, Int.reduceToNat, Int.reduceLT, Int.reduceLE, Int.reduceNeg, reduceCtorEq, Nat.reduceEqDiff, go_sem, hltI])) | (with_reducible refine And.intro ?_ ?_) | ((with_reducible intro hpath); try first | (exfalso; (try clear hK'); (try clear hK); omega) | (exact absurd hpath (by assumption))) | ((with_reducible first | refine gi1 ?_ | refine gi2 ?_ | refine gn1 ?_ | refine gn2 ?_ | refine gi3 ?_ | refine gn3 ?_ | refine gnot ?_); omega) | (with_reducible exact True.intro) | ((refine hK' _ _ ?_); clear hK'; clear K'))); (try simp only [aput, List.set_cons_succ, List.set_cons_zero, List.length_cons, List.length_nil, List.length_append, List.cons_append, List.nil_append, Nat.reduceAdd, List.append_nil]))))
        | (with_reducible refine AWp.seq ?_)
        | (with_reducible refine AWp.block ?_)
        | (with_reducible refine AWp.skip ?_)
        | (with_reducible refine AWp.ret ?_)
        | (with_reducible refine AWp.exit ?_)
        | (refine AWp.cond _ rfl (fun hcond => ?_) (fun hcond => ?_) <;> first | (simp only [reduceCtorEq, Bool.true_eq_false, Bool.false_eq_true] at hcond; done) | (simp only [decide_eq_true_eq, decide_eq_false_iff_not, Bool.not_eq_true', Bool.not_eq_false', Int.not_lt, Int.not_le] at hcond; try (exfalso; omega)) | skip)
        | (with_reducible refine AThen.n ?_)
        | (with_reducible refine AThen.r ?_)
        | (with_reducible refine AThen.e ?_)
        | (with_reducible refine AInBlock.n ?_)
        | (with_reducible refine AInBlock.r ?_)
        | (with_reducible refine AInBlock.hit ?_)
        | (with_reducible refine AInBlock.miss (by with_unfolding_all decide) ?_))
      · rw [if_neg (by assumption)] at hV1
        refine ⟨u + 1, Weak.head2 (m := 1) (by omega) [false, true, true, false, false, true, true, false, false, false, false, false, false, false, false, false, false, false, false, false, false, false, false] (by first | rfl | (simp [mask, hV1]; done) | (simp [mask, hV1] <;> simp_all <;> omega)) (by first | rfl | (simp [mask, hV1]; done) | (simp [mask, hV1] <;> simp_all <;> omega)) (by (repeat' (first | exact valsIn_nil _ | exact blksIn_nil _ | exact cellsIn_nil _ | refine And.intro ?_ ?_ | refine valsIn_cons ?_ ?_ | refine blksIn_cons ?_ ?_ | refine cellsIn_cons ?_ ?_ | exact True.intro | (show _ < _; omega) | exact cellsIn_map (fun _ => True.intro) | (intro c hc; cases hc; done) | (intro c hc; simp only [List.mem_cons, List.not_mem_nil, or_false] at hc; subst hc; exact True.intro)))), ?_, ?_⟩
        · exact hlt
        · omega
      · rw [if_pos (by assumption), Int.add_zero] at hV1
        refine ⟨u + 1, Weak.head2 (m := 1) (by omega) [false, true, true, false, false, true, true, false, false, false, false, false, false, false, false, false, false, false, false, false, false, false, false] (by first | rfl | (simp [mask, hV1]; done) | (simp [mask, hV1] <;> simp_all <;> omega)) (by first | rfl | (simp [mask, hV1]; done) | (simp [mask, hV1] <;> simp_all <;> omega)) (by (repeat' (first | exact valsIn_nil _ | exact blksIn_nil _ | exact cellsIn_nil _ | refine And.intro ?_ ?_ | refine valsIn_cons ?_ ?_ | refine blksIn_cons ?_ ?_ | refine cellsIn_cons ?_ ?_ | exact True.intro | (show _ < _; omega) | exact cellsIn_map (fun _ => True.intro) | (intro c hc; cases hc; done) | (intro c hc; simp only [List.mem_cons, List.not_mem_nil, or_false] at hc; subst hc; exact True.intro)))), ?_, ?_⟩
        · exact hlt
        · omega
    · have eu : u = n := by omega
      subst eu
      have hnl : ¬ ((u : Int) < g.n) := by omega
      repeat' (first
        | (with_reducible refine AWp.seq_region (fun K hK => ?_))
        | (with_reducible refine AWp.last_region (fun K hK => ?_))
        | (with_reducible refine AWp.seq_draw (by with_unfolding_all kernel_rfl) (fun K hK => ?_))
        | (with_reducible refine AWp.last_draw (by with_unfolding_all kernel_rfl) (fun K hK => ?_))
        | ((with_reducible first | refine vcEnd ?_ | refine vcEndD ?_ | refine vcEndM ?_); refine hK _ _ ?_; clear hK; clear K)
        | ((with_reducible first | refine vcStepN (by rfl) (by with_unfolding_all rfl) ?_ | refine vcStepND (by rfl) (by with_unfolding_all rfl) ?_ | refine vcStepNM (by rfl) (by with_unfolding_all rfl) ?_); try simp only [aput, List.set_cons_succ, List.set_cons_zero, List.length_cons, List.length_nil, List.length_append, List.cons_append, List.nil_append, Nat.reduceAdd, List.append_nil])
        | ((with_reducible first | refine vcStep (by rfl) (fun K' hK' => ?_) | refine vcStepD (by rfl) (fun K' hK' => ?_) | refine vcStepM (by rfl) (fun K' hK' => ?_) | refine vcStepG (by rfl) (by with_unfolding_all rfl) (fun hguard K' hK' => ?_) (fun hguard => ?_) | refine vcStepGD (by rfl) (by with_unfolding_all rfl) (fun hguard K' hK' => ?_) (fun hguard => ?_) | refine vcStepGM (by rfl) (by with_unfolding_all rfl) (fun hguard K' hK' => ?_) (fun hguard => ?_)) <;> ((try (replace hguard := hguard; (try simp only [decide_eq_true_eq, decide_eq_false_iff_not, Bool.not_eq_true', Bool.not_eq_false', Bool.not_true, Bool.not_false, Int.not_lt, Int.not_le, reduceCtorEq, Bool.true_eq_false, Bool.false_eq_true] at hguard); (try (exfalso; (try clear hK'); (try clear hK); omega)))) <;> ((try (simp +contextual only [Nat.reduceAdd, Nat.reduceSub, Nat.reduceMul, Nat.reduceLeDiff, Nat.reduceLT, Int.reduceToNat, Int.reduceLT, Int.reduceLE, Int.reduceNeg, reduceCtorEq, Nat.reduceEqDiff, go_sem, hnl])); (repeat' (first | ((with_reducible refine hK' _ _ ?_); clear hK'; clear K') | (with_reducible refine And.intro ?_ ?_) | ((with_reducible intro hpath); try first | (exfalso; (try clear hK'); (try clear hK); omega) | (exact absurd hpath (by assumption))) | ((with_reducible first | refine gi1 ?_ | refine gi2 ?_ | refine gn1 ?_ | refine gn2 ?_ | refine gi3 ?_ | refine gn3 ?_ | refine gnot ?_); omega) | (with_reducible exact True.intro) | ((refine hK' _ _ ?_); clear hK'; clear K'))); (try simp only [aput, List.set_cons_succ, List.set_cons_zero, List.length_cons, List.length_nil, List.length_append, List.cons_append, List.nil_append, Nat.reduceAdd, List.append_nil]))))
        | (with_reducible refine AWp.seq ?_)
        | (with_reducible refine AWp.block ?_)
        | (with_reducible refine AWp.skip ?_)
        | (with_reducible refine AWp.ret ?_)
        | (with_reducible refine AWp.exit ?_)
        | (refine AWp.cond _ rfl (fun hcond => ?_) (fun hcond => ?_) <;> first | (simp only [reduceCtorEq, Bool.true_eq_false, Bool.false_eq_true] at hcond; done) | (simp only [decide_eq_true_eq, decide_eq_false_iff_not, Bool.not_eq_true', Bool.not_eq_false', Int.not_lt, Int.not_le] at hcond; try (exfalso; omega)) | skip)
        | (with_reducible refine AThen.n ?_)
        | (with_reducible refine AThen.r ?_)
        | (with_reducible refine AThen.e ?_)
        | (with_reducible refine AInBlock.n ?_)
        | (with_reducible refine AInBlock.r ?_)
        | (with_reducible refine AInBlock.hit ?_)
        | (with_reducible refine AInBlock.miss (by with_unfolding_all decide) ?_))
      simp [Rets, aret, Blk.cells, ty, Try.results45, ares, toT1, toT, borrow, borrow0, capCell, toTree0, tint]
theorem DegreeR_ok (g : G) (n : Nat) (hc : checkG g = 0) (hn : g.n = n) (hl : g.es.length < 2 ^ 30) (v : Int) : ACall Try.prog 44 [tG g, tint v] (tint (valR g.es v n + 2 * cntL g.es v v)) := by
  have hn12 := (checkG_zero.1 hc).1
  have hVb : 0 ≤ valR g.es v n ∧ valR g.es v n ≤ 600 := by
    have := sumR_bound (f := fun u => if (u : Int) = v then 0 else cntL g.es (min (u : Int) v) (max (u : Int) v)) (n := n) (k := 50) (fun i _ => by have := cnt_bound hc (min (i : Int) v) (max (i : Int) v); (try simp only); split <;> omega)
    unfold valR; omega
  have hb := BetweenR_ok g v v (by omega)
  rw [Int.min_self, Int.max_self] at hb
  have hcb := cnt_bound hc v v
  have hv := ValenceR_ok g n hc hn hl v
  refine ACall.of_body Try.func44 rfl (by kernel_rfl) ?_
  simp only [entry, Try.ntmps44, ofT, ofT1, ofTree, List.map_cons, List.map_nil, List.length_cons, List.length_nil, Nat.reduceAdd, Nat.reduceSub, List.replicate_succ, List.replicate_zero, List.cons_append, List.nil_append, tG, tint]
  generalize valR g.es v n = S at *
  generalize cntL g.es v v = k at *
  repeat' (first
    | (with_reducible refine AWp.seq_region (fun K hK => ?_))
    | (with_reducible refine AWp.last_region (fun K hK => ?_))
    | (with_reducible refine AWp.seq_draw (by with_unfolding_all kernel_rfl) (fun K hK => ?_))
    | (with_reducible refine AWp.last_draw (by with_unfolding_all kernel_rfl) (fun K hK => ?_))
    | ((with_reducible first | refine vcEnd ?_ | refine vcEndD ?_ | refine vcEndM ?_); refine hK _ _ ?_; clear hK; clear K)
    | ((with_reducible first | refine vcStepN (by rfl) (by with_unfolding_all rfl) ?_ | refine vcStepND (by rfl) (by with_unfolding_all rfl) ?_ | refine vcStepNM (by rfl) (by with_unfolding_all rfl) ?_); try simp only [aput, List.set_cons_succ, List.set_cons_zero, List.length_cons, List.length_nil, List.length_append, List.cons_append, List.nil_append, Nat.reduceAdd, List.append_nil])
    | ((with_reducible first | refine vcStep (by rfl) (fun K' hK' => ?_) | refine vcStepD (by rfl) (fun K' hK' => ?_) | refine vcStepM (by rfl) (fun K' hK' => ?_) | refine vcStepG (by rfl) (by with_unfolding_all rfl) (fun hguard K' hK' => ?_) (fun hguard => ?_) | refine vcStepGD (by rfl) (by with_unfolding_all rfl) (fun hguard K' hK' => ?_) (fun hguard => ?_) | refine vcStepGM (by rfl) (by with_unfolding_all rfl) (fun hguard K' hK' => ?_) (fun hguard => ?_)) <;> ((try (replace hguard := hguard; (try simp only [decide_eq_true_eq, decide_eq_false_iff_not, Bool.not_eq_true', Bool.not_eq_false', Bool.not_true, Bool.not_false, Int.not_lt, Int.not_le, reduceCtorEq, Bool.true_eq_false, Bool.false_eq_true] at hguard); (try (exfalso; (try clear hK'); (try clear hK); omega)))) <;> ((try (simp +contextual only [Nat.reduceAdd, Nat.reduceSub, Nat.reduceMul, Nat.reduceLeDiff, Nat.reduceLT, Int.reduceToNat, Int.reduceLT, Int.reduceLE, Int.reduceNeg, reduceCtorEq, Nat.reduceEqDiff, go_sem])); (repeat' (first | ((with_reducible refine hK' _ _ ?_); clear hK'; clear K') | ((with_reducible first | refine ⟨_, _, ACall.h (hv) (by with_unfolding_all rfl), ?_⟩ | refine ⟨_, ACall.h (hv) (by with_unfolding_all rfl), ?_⟩ | refine ⟨_, _, ACall.hb (hv) (by with_unfolding_all rfl) (by with_unfolding_all rfl), ?_⟩ | refine ⟨_, ACall.hb (hv) (by with_unfolding_all rfl) (by with_unfolding_all rfl), ?_⟩ | refine ⟨_, _, ACall.h (hb) (by with_unfolding_all rfl), ?_⟩ | refine ⟨_, ACall.h (hb) (by with_unfolding_all rfl), ?_⟩ | refine ⟨_, _, ACall.hb (hb) (by with_unfolding_all rfl) (by with_unfolding_all rfl), ?_⟩ | refine ⟨_, ACall.hb (hb) (by with_unfolding_all rfl) (by with_unfolding_all rfl), ?_⟩); (try simp +contextual only [Nat.reduceAdd, Nat.reduceSub, Nat.reduceMul, Nat.reduceLeDiff, Nat.reduceLT, Int.reduceToNat, Int.reduceLT, Int.reduceLE, Int.reduceNeg, reduceCtorEq, Nat.reduceEqDiff, go_sem])) | (with_reducible refine And.intro ?_ ?_) | ((with_reducible intro hpath); try first | (exfalso; (try clear hK'); (try clear hK); omega) | (exact absurd hpath (by assumption))) | ((with_reducible first | refine gi1 ?_ | refine gi2 ?_ | refine gn1 ?_ | refine gn2 ?_ | refine gi3 ?_ | refine gn3 ?_ | refine gnot ?_); omega) | (with_reducible exact True.intro) | ((refine hK' _ _ ?_); clear hK'; clear K'))); (try simp only [aput, List.set_cons_succ, List.set_cons_zero, List.length_cons, List.length_nil, List.length_append, List.cons_append, List.nil_append, Nat.reduceAdd, List.append_nil]))))
    | (with_reducible refine AWp.seq ?_)
    | (with_reducible refine AWp.block ?_)
    | (with_reducible refine AWp.skip ?_)
    | (with_reducible refine AWp.ret ?_)
    | (with_reducible refine AWp.exit ?_)
    | (refine AWp.cond _ rfl (fun hcond => ?_) (fun hcond => ?_) <;> first | (simp only [reduceCtorEq, Bool.true_eq_false, Bool.false_eq_true] at hcond; done) | (simp only [decide_eq_true_eq, decide_eq_false_iff_not, Bool.not_eq_true', Bool.not_eq_false', Int.not_lt, Int.not_le] at hcond; try (exfalso; omega)) | skip)
    | (with_reducible refine AThen.n ?_)
    | (with_reducible refine AThen.r ?_)
    | (with_reducible refine AThen.e ?_)
    | (with_reducible refine AInBlock.n ?_)
    | (with_reducible refine AInBlock.r ?_)
    | (with_reducible refine AInBlock.hit ?_)
    | (with_reducible refine AInBlock.miss (by with_unfolding_all decide) ?_))
  simp [Rets, aret, Blk.cells, ty, Try.results44, ares, toT1, toT, borrow, borrow0, capCell, toTree0, tint]
def neiP (es : List E) (v : Int) (u : Int) : Bool := !decide (u = v) && decide (0 < cntL es (min u v) (max u v))
def neiR (es : List E) (v : Int) (n : Nat) : List Int := inL (neiP es v) n
theorem NeighboursR_ok (g : G) (n : Nat) (hc : checkG g = 0) (hn : g.n = n) (hl : g.es.length < 2 ^ 30) (v : Int) : ACall Try.prog 46 [tG g, tint v] (tints (neiR g.es v n)) := by
  have hn12 := (checkG_zero.1 hc).1
  refine ACall.of_body Try.func46 rfl (by kernel_rfl) ?_
  simp only [entry, Try.ntmps46, ofT, ofT1, ofTree, List.map_cons, List.map_nil, List.length_cons, List.length_nil, Nat.reduceAdd, Nat.reduceSub, List.replicate_succ, List.replicate_zero, List.cons_append, List.nil_append, tG, tint]
  repeat' (first
    | (with_reducible refine AWp.seq_region (fun K hK => ?_))
    | (with_reducible refine AWp.last_region (fun K hK => ?_))
    | (with_reducible refine AWp.seq_draw (by with_unfolding_all kernel_rfl) (fun K hK => ?_))
    | (with_reducible refine AWp.last_draw (by with_unfolding_all kernel_rfl) (fun K hK => ?_))
    | ((with_reducible first | refine vcEnd ?_ | refine vcEndD ?_ | refine vcEndM ?_); refine hK _ _ ?_; clear hK; clear K)
    | ((with_reducible first | refine vcStepN (by rfl) (by with_unfolding_all rfl) ?_ | refine vcStepND (by rfl) (by with_unfolding_all rfl) ?_ | refine vcStepNM (by rfl) (by with_unfolding_all rfl) ?_); try simp only [aput, List.set_cons_succ, List.set_cons_zero, List.length_cons, List.length_nil, List.length_append, List.cons_append, List.nil_append, Nat.reduceAdd, List.append_nil])
    | ((with_reducible first | refine vcStep (by rfl) (fun K' hK' => ?_) | refine vcStepD (by rfl) (fun K' hK' => ?_) | refine vcStepM (by rfl) (fun K' hK' => ?_) | refine vcStepG (by rfl) (by with_unfolding_all rfl) (fun hguard K' hK' => ?_) (fun hguard => ?_) | refine vcStepGD (by rfl) (by with_unfolding_all rfl) (fun hguard K' hK' => ?_) (fun hguard => ?_) | refine vcStepGM (by rfl) (by with_unfolding_all rfl) (fun hguard K' hK' => ?_) (fun hguard => ?_)) <;> ((try (replace hguard := hguard; (try simp only [decide_eq_true_eq, decide_eq_false_iff_not, Bool.not_eq_true', Bool.not_eq_false', Bool.not_true, Bool.not_false, Int.not_lt, Int.not_le, reduceCtorEq, Bool.true_eq_false, Bool.false_eq_true] at hguard); (try (exfalso; (try clear hK'); (try clear hK); omega)))) <;> ((try (simp +contextual only [Nat.reduceAdd, Nat.reduceSub, Nat.reduceMul, Nat.reduceLeDiff, Nat.reduceLT, Int.reduceToNat, Int.reduceLT, Int.reduceLE, Int.reduceNeg, reduceCtorEq, Nat.reduceEqDiff, go_sem])); (repeat' (first | ((with_reducible refine hK' _ _ ?_); clear hK'; clear K') | (with_reducible refine And.intro ?_ ?_) | ((with_reducible intro hpath); try first | (exfalso; (try clear hK'); (try clear hK); omega) | (exact absurd hpath (by assumption))) | ((with_reducible first | refine gi1 ?_ | refine gi2 ?_ | refine gn1 ?_ | refine gn2 ?_ | refine gi3 ?_ | refine gn3 ?_ | refine gnot ?_); omega) | (with_reducible exact True.intro) | ((refine hK' _ _ ?_); clear hK'; clear K'))); (try simp only [aput, List.set_cons_succ, List.set_cons_zero, List.length_cons, List.length_nil, List.length_append, List.cons_append, List.nil_append, Nat.reduceAdd, List.append_nil]))))
    | (with_reducible refine AWp.seq ?_)
    | (with_reducible refine AWp.block ?_)
    | (with_reducible refine AWp.skip ?_)
    | (with_reducible refine AWp.ret ?_)
    | (with_reducible refine AWp.exit ?_)
    | (refine AWp.cond _ rfl (fun hcond => ?_) (fun hcond => ?_) <;> first | (simp only [reduceCtorEq, Bool.true_eq_false, Bool.false_eq_true] at hcond; done) | (simp only [decide_eq_true_eq, decide_eq_false_iff_not, Bool.not_eq_true', Bool.not_eq_false', Int.not_lt, Int.not_le] at hcond; try (exfalso; omega)) | skip)
    | (with_reducible refine AThen.n ?_)
    | (with_reducible refine AThen.r ?_)
    | (with_reducible refine AThen.e ?_)
    | (with_reducible refine AInBlock.n ?_)
    | (with_reducible refine AInBlock.r ?_)
    | (with_reducible refine AInBlock.hit ?_)
    | (with_reducible refine AInBlock.miss (by with_unfolding_all decide) ?_))
  refine AWp.weak (Weak.opens [false, false, false, false, false, true, false, false, false, false, false, false, false, false, false, false, false, false, false, false, false, false, false, false, false, false, false, false] 1 (by omega)) ?_
  simp only [openS, openV, List.length_cons, List.length_nil, List.length_append, Nat.reduceAdd, List.cons_append, List.nil_append]
  refine AWp.loopx (α := Nat) (fun u => (⟨.c .any :: .c (.int .i64 v) :: .c (.ptr 0 0) :: .c .any :: .c .any :: .c (.slice (iRows (inL (neiP g.es v) u)) (.chain 1)) :: .c (.int .i64 (u : Int)) :: .c .any :: .c .any :: .c .any :: .c .any :: .c .any :: .c .any :: .c .any :: .c .any :: .c .any :: .c .any :: .c .any :: .c .any :: .c .any :: .c .any :: .c .any :: .c .any :: .c .any :: .c .any :: .c .any :: .c .any :: .c .any :: [], [.box [.int .i64 g.n, .slice (eRows g.es) .none], .chain (inL (neiP g.es v) u).length 1]⟩ : St)) (fun u => u ≤ n) (fun u => n - u) (0) (Weak.head2 (m := 2) (by omega) [false, true, true, false, false, true, true, false, false, false, false, false, false, false, false, false, false, false, false, false, false, false, false, false, false, false, false, false] (by first | rfl | (simp [mask]; done) | (simp [mask] <;> omega)) (by first | rfl | (simp; done) | (simp <;> omega)) (by (repeat' (first | exact valsIn_nil _ | exact blksIn_nil _ | exact cellsIn_nil _ | refine And.intro ?_ ?_ | refine valsIn_cons ?_ ?_ | refine blksIn_cons ?_ ?_ | refine cellsIn_cons ?_ ?_ | exact True.intro | (show _ < _; omega) | exact cellsIn_map (fun _ => True.intro) | (intro c hc; cases hc; done) | (intro c hc; simp only [List.mem_cons, List.not_mem_nil, or_false] at hc; subst hc; exact True.intro))))) ?_ (fun u hI => ?_)
  · exact Nat.zero_le _
  · have hun : u ≤ n := hI
    clear hI
    by_cases hlt : u < n
    · have hltI : (u : Int) < g.n := by omega
      have hb := BetweenR_ok g u v (by omega)
      have hL := inL_succ (neiP g.es v) u
      have hLl := inL_len (neiP g.es v) u
      have hP : neiP g.es v u = (!decide ((u : Int) = v) && decide (0 < cntL g.es (min (u : Int) v) (max (u : Int) v))) := rfl
      generalize inL (neiP g.es v) u = L at *
      generalize cntL g.es (min (u : Int) v) (max (u : Int) v) = k at *
      by_cases huv : (u : Int) = v
      · rw [decide_eq_true huv] at hP
        rw [hP] at hL
        simp only [Bool.not_true, Bool.false_and, Bool.false_eq_true, if_false, List.append_nil] at hL
        repeat' (first
          | (with_reducible refine AWp.seq_region (fun K hK => ?_))
          | (with_reducible refine AWp.last_region (fun K hK => ?_))
          | (with_reducible refine AWp.seq_draw (by with_unfolding_all kernel_rfl) (fun K hK => ?_))
          | (with_reducible refine AWp.last_draw (by with_unfolding_all kernel_rfl) (fun K hK => ?_))
          | ((with_reducible first | refine vcEnd ?_ | refine vcEndD ?_ | refine vcEndM ?_); refine hK _ _ ?_; clear hK; clear K)
          | ((with_reducible first | refine vcStepN (by rfl) (by with_unfolding_all rfl) ?_ | refine vcStepND (by rfl) (by with_unfolding_all rfl) ?_ | refine vcStepNM (by rfl) (by with_unfolding_all rfl) ?_); try simp only [aput, List.set_cons_succ, List.set_cons_zero, List.length_cons, List.length_nil, List.length_append, List.cons_append, List.nil_append, Nat.reduceAdd, List.append_nil])
          | ((with_reducible first | refine vcStep (by rfl) (fun K' hK' => ?_) | refine vcStepD (by rfl) (fun K' hK' => ?_) | refine vcStepM (by rfl) (fun K' hK' => ?_) | refine vcStepG (by rfl) (by with_unfolding_all rfl) (fun hguard K' hK' => ?_) (fun hguard => ?_) | refine vcStepGD (by rfl) (by with_unfolding_all rfl) (fun hguard K' hK' => ?_) (fun hguard => ?_) | refine vcStepGM (by rfl) (by with_unfolding_all rfl) (fun hguard K' hK' => ?_) (fun hguard => ?_)) <;> ((try (replace hguard := hguard; (try simp only [decide_eq_true_eq, decide_eq_false_iff_not, Bool.not_eq_true', Bool.not_eq_false', Bool.not_true, Bool.not_false, Int.not_lt, Int.not_le, reduceCtorEq, Bool.true_eq_false, Bool.false_eq_true] at hguard); (try (exfalso; (try clear hK'); (try clear hK); omega)))) <;> ((try (simp +contextual only [Nat.reduceAdd, Nat.reduceSub, Nat.reduceMul, Nat.reduceLeDiff, Nat.reduceLT, Int.reduceToNat, Int.reduceLT, Int.reduceLE, Int.reduceNeg, reduceCtorEq, Nat.reduceEqDiff, go_sem, hltI, huv])); (repeat' (first | ((with_reducible refine hK' _ _ ?_); clear hK'; clear K') | ((with_reducible first | refine ⟨_, _, ACall.h (hb) (by with_unfolding_all rfl), ?_⟩ | refine ⟨_, ACall.h (hb) (by with_unfolding_all rfl), ?_⟩ | refine ⟨_, _, ACall.hb (hb) (by with_unfolding_all rfl) (by with_unfolding_all rfl), ?_⟩ | refine ⟨_, ACall.hb (hb) (by with_unfolding_all rfl) (by with_unfolding_all rfl), ?_⟩); (try simp +contextual only [Nat.reduceAdd, Nat.reduceSub, Nat.reduceMul, Nat.reduceLeDiff, Nat.reduceLT, Int.reduceToNat, Int.reduceLT, Int.reduceLE, Int.reduceNeg, reduceCtorEq, Nat.reduceEqDiff, go_sem, hltI, huv])) | (with_reducible refine And.intro ?_ ?_) | ((with_reducible intro hpath); try first | (exfalso; (try clear hK'); (try clear hK); omega) | (exact absurd hpath (by assumption))) | ((with_reducible first | refine gi1 ?_ | refine gi2 ?_ | refine gn1 ?_ | refine gn2 ?_ | refine gi3 ?_ | refine gn3 ?_ | refine gnot ?_); omega) | (with_reducible exact True.intro) | ((refine hK' _ _ ?_); clear hK'; clear K'))); (try simp only [aput, List.set_cons_succ, List.set_cons_zero, List.length_cons, List.length_nil, List.length_append, List.cons_append, List.nil_append, Nat.reduceAdd, List.append_nil]))))
          | (with_reducible refine AWp.seq ?_)
          | (with_reducible refine AWp.block ?_)
          | (with_reducible refine AWp.skip ?_)
          | (with_reducible refine AWp.ret ?_)
          | (with_reducible refine AWp.exit ?_)
          | (refine AWp.cond _ rfl (fun hcond => ?_) (fun hcond => ?_) <;> first | (simp only [reduceCtorEq, Bool.true_eq_false, Bool.false_eq_true] at hcond; done) | (simp only [decide_eq_true_eq, decide_eq_false_iff_not, Bool.not_eq_true', Bool.not_eq_false', Int.not_lt, Int.not_le] at hcond; try (exfalso; omega)) | skip)
          | (with_reducible refine AThen.n ?_)
          | (with_reducible refine AThen.r ?_)
          | (with_reducible refine AThen.e ?_)
          | (with_reducible refine AInBlock.n ?_)
          | (with_reducible refine AInBlock.r ?_)
          | (with_reducible refine AInBlock.hit ?_)
          | (with_reducible refine AInBlock.miss (by with_unfolding_all decide) ?_))
        refine ⟨u + 1, Weak.head2 (m := 2) (by omega) [false, true, true, false, false, true, true, false, false, false, false, false, false, false, false, false, false, false, false, false, false, false, false, false, false, false, false, false] (by first | rfl | (simp [mask, hL]; done) | (simp [mask, hL] <;> simp_all <;> omega)) (by first | rfl | (simp [mask, hL]; done) | (simp [mask, hL] <;> simp_all <;> omega)) (by (repeat' (first | exact valsIn_nil _ | exact blksIn_nil _ | exact cellsIn_nil _ | refine And.intro ?_ ?_ | refine valsIn_cons ?_ ?_ | refine blksIn_cons ?_ ?_ | refine cellsIn_cons ?_ ?_ | exact True.intro | (show _ < _; omega) | exact cellsIn_map (fun _ => True.intro) | (intro c hc; cases hc; done) | (intro c hc; simp only [List.mem_cons, List.not_mem_nil, or_false] at hc; subst hc; exact True.intro)))), ?_, ?_⟩
        · exact hlt
        · omega
      · rw [decide_eq_false huv] at hP
        by_cases hk : 0 < k
        · rw [decide_eq_true hk] at hP
          rw [hP] at hL
          simp only [Bool.not_false, Bool.true_and, if_true] at hL
          repeat' (first
            | (with_reducible refine AWp.seq_region (fun K hK => ?_))
            | (with_reducible refine AWp.last_region (fun K hK => ?_))
            | (with_reducible refine AWp.seq_draw (by with_unfolding_all kernel_rfl) (fun K hK => ?_))
            | (with_reducible refine AWp.last_draw (by with_unfolding_all kernel_rfl) (fun K hK => ?_))
            | ((with_reducible first | refine vcEnd ?_ | refine vcEndD ?_ | refine vcEndM ?_); refine hK _ _ ?_; clear hK; clear K)
            | ((with_reducible first | refine vcStepN (by rfl) (by with_unfolding_all rfl) ?_ | refine vcStepND (by rfl) (by with_unfolding_all rfl) ?_ | refine vcStepNM (by rfl) (by with_unfolding_all rfl) ?_); try simp only [aput, List.set_cons_succ, List.set_cons_zero, List.length_cons, List.length_nil, List.length_append, List.cons_append, List.nil_append, Nat.reduceAdd, List.append_nil])
            | ((with_reducible first | refine vcStep (by rfl) (fun K' hK' => ?_) | refine vcStepD (by rfl) (fun K' hK' => ?_) | refine vcStepM (by rfl) (fun K' hK' => ?_) | refine vcStepG (by rfl) (by with_unfolding_all rfl) (fun hguard K' hK' => ?_) (fun hguard => ?_) | refine vcStepGD (by rfl) (by with_unfolding_all rfl) (fun hguard K' hK' => ?_) (fun hguard => ?_) | refine vcStepGM (by rfl) (by with_unfolding_all rfl) (fun hguard K' hK' => ?_) (fun hguard => ?_)) <;> ((try (replace hguard := hguard; (try simp only [decide_eq_true_eq, decide_eq_false_iff_not, Bool.not_eq_true', Bool.not_eq_false', Bool.not_true, Bool.not_false, Int.not_lt, Int.not_le, reduceCtorEq, Bool.true_eq_false, Bool.false_eq_true] at hguard); (try (exfalso; (try clear hK'); (try clear hK); omega)))) <;> ((try (simp +contextual only [Nat.reduceAdd, Nat.reduceSub, Nat.reduceMul, Nat.reduceLeDiff, Nat.reduceLT, Int.reduceToNat, Int.reduceLT, Int.reduceLE, Int.reduceNeg, reduceCtorEq, Nat.reduceEqDiff, go_sem, hltI, huv, hk, iRows_len, chunks, List.range, List.range.loop, iRows_snoc])); (repeat' (first | ((with_reducible refine hK' _ _ ?_); clear hK'; clear K') | ((with_reducible first | refine ⟨_, _, ACall.h (hb) (by with_unfolding_all rfl), ?_⟩ | refine ⟨_, ACall.h (hb) (by with_unfolding_all rfl), ?_⟩ | refine ⟨_, _, ACall.hb (hb) (by with_unfolding_all rfl) (by with_unfolding_all rfl), ?_⟩ | refine ⟨_, ACall.hb (hb) (by with_unfolding_all rfl) (by with_unfolding_all rfl), ?_⟩); (try simp +contextual only [Nat.reduceAdd, Nat.reduceSub, Nat.reduceMul, Nat.reduceLeDiff, Nat.reduceLT, Int.reduceToNat, Int.reduceLT, Int.reduceLE, Int.reduceNeg, reduceCtorEq, Nat.reduceEqDiff, go_sem, hltI, huv, hk, iRows_len, chunks, List.range, List.range.loop, iRows_snoc])) | (with_reducible exact iRows_k' (by assumption)) | (with_reducible refine And.intro ?_ ?_) | ((with_reducible intro hpath); try first | (exfalso; (try clear hK'); (try clear hK); omega) | (exact absurd hpath (by assumption))) | ((with_reducible first | refine gi1 ?_ | refine gi2 ?_ | refine gn1 ?_ | refine gn2 ?_ | refine gi3 ?_ | refine gn3 ?_ | refine gnot ?_); omega) | (with_reducible exact True.intro) | ((refine hK' _ _ ?_); clear hK'; clear K'))); (try simp only [aput, List.set_cons_succ, List.set_cons_zero, List.length_cons, List.length_nil, List.length_append, List.cons_append, List.nil_append, Nat.reduceAdd, List.append_nil]))))
            | (with_reducible refine AWp.seq ?_)
            | (with_reducible refine AWp.block ?_)
            | (with_reducible refine AWp.skip ?_)
            | (with_reducible refine AWp.ret ?_)
            | (with_reducible refine AWp.exit ?_)
            | (refine AWp.cond _ rfl (fun hcond => ?_) (fun hcond => ?_) <;> first | (simp only [reduceCtorEq, Bool.true_eq_false, Bool.false_eq_true] at hcond; done) | (simp only [decide_eq_true_eq, decide_eq_false_iff_not, Bool.not_eq_true', Bool.not_eq_false', Int.not_lt, Int.not_le] at hcond; try (exfalso; omega)) | skip)
            | (with_reducible refine AThen.n ?_)
            | (with_reducible refine AThen.r ?_)
            | (with_reducible refine AThen.e ?_)
            | (with_reducible refine AInBlock.n ?_)
            | (with_reducible refine AInBlock.r ?_)
            | (with_reducible refine AInBlock.hit ?_)
            | (with_reducible refine AInBlock.miss (by with_unfolding_all decide) ?_))
          refine ⟨u + 1, Weak.head2 (m := 2) (by omega) [false, true, true, false, false, true, true, false, false, false, false, false, false, false, false, false, false, false, false, false, false, false, false, false, false, false, false, false] (by first | rfl | (simp [mask, hL]; done) | (simp [mask, hL] <;> simp_all <;> omega)) (by first | rfl | (simp [mask, hL]; done) | (simp [mask, hL] <;> simp_all <;> omega)) (by (repeat' (first | exact valsIn_nil _ | exact blksIn_nil _ | exact cellsIn_nil _ | refine And.intro ?_ ?_ | refine valsIn_cons ?_ ?_ | refine blksIn_cons ?_ ?_ | refine cellsIn_cons ?_ ?_ | exact True.intro | (show _ < _; omega) | exact cellsIn_map (fun _ => True.intro) | (intro c hc; cases hc; done) | (intro c hc; simp only [List.mem_cons, List.not_mem_nil, or_false] at hc; subst hc; exact True.intro)))), ?_, ?_⟩
          · exact hlt
          · omega
        · rw [decide_eq_false hk] at hP
          rw [hP] at hL
          simp only [Bool.not_false, Bool.true_and, Bool.false_eq_true, if_false, List.append_nil] at hL
          repeat' (first
            | (with_reducible refine AWp.seq_region (fun K hK => ?_))
            | (with_reducible refine AWp.last_region (fun K hK => ?_))
            | (with_reducible refine AWp.seq_draw (by with_unfolding_all kernel_rfl) (fun K hK => ?_))
            | (with_reducible refine AWp.last_draw (by with_unfolding_all kernel_rfl) (fun K hK => ?_))
            | ((with_reducible first | refine vcEnd ?_ | refine vcEndD ?_ | refine vcEndM ?_); refine hK _ _ ?_; clear hK; clear K)
            | ((with_reducible first | refine vcStepN (by rfl) (by with_unfolding_all rfl) ?_ | refine vcStepND (by rfl) (by with_unfolding_all rfl) ?_ | refine vcStepNM (by rfl) (by with_unfolding_all rfl) ?_); try simp only [aput, List.set_cons_succ, List.set_cons_zero, List.length_cons, List.length_nil, List.length_append, List.cons_append, List.nil_append, Nat.reduceAdd, List.append_nil])
            | ((with_reducible first | refine vcStep (by rfl) (fun K' hK' => ?_) | refine vcStepD (by rfl) (fun K' hK' => ?_) | refine vcStepM (by rfl) (fun K' hK' => ?_) | refine vcStepG (by rfl) (by with_unfolding_all rfl) (fun hguard K' hK' => ?_) (fun hguard => ?_) | refine vcStepGD (by rfl) (by with_unfolding_all rfl) (fun hguard K' hK' => ?_) (fun hguard => ?_) | refine vcStepGM (by rfl) (by with_unfolding_all rfl) (fun hguard K' hK' => ?_) (fun hguard => ?_)) <;> ((try (replace hguard := hguard; (try simp only [decide_eq_true_eq, decide_eq_false_iff_not, Bool.not_eq_true', Bool.not_eq_false', Bool.not_true, Bool.not_false, Int.not_lt, Int.not_le, reduceCtorEq, Bool.true_eq_false, Bool.false_eq_true] at hguard); (try (exfalso; (try clear hK'); (try clear hK); omega)))) <;> ((try (simp +contextual only [Nat.reduceAdd, Nat.reduceSub, Nat.reduceMul, Nat.reduceLeDiff, Nat.reduceLT, Int.reduceToNat, Int.reduceLT, Int.reduceLE, Int.reduceNeg, reduceCtorEq, Nat.reduceEqDiff, go_sem, hltI, huv, hk])); (repeat' (first | ((with_reducible refine hK' _ _ ?_); clear hK'; clear K') | ((with_reducible first | refine ⟨_, _, ACall.h (hb) (by with_unfolding_all rfl), ?_⟩ | refine ⟨_, ACall.h (hb) (by with_unfolding_all rfl), ?_⟩ | refine ⟨_, _, ACall.hb (hb) (by with_unfolding_all rfl) (by with_unfolding_all rfl), ?_⟩ | refine ⟨_, ACall.hb (hb) (by with_unfolding_all rfl) (by with_unfolding_all rfl), ?_⟩); (try simp +contextual only [Nat.reduceAdd, Nat.reduceSub, Nat.reduceMul, Nat.reduceLeDiff, Nat.reduceLT, Int.reduceToNat, Int.reduceLT, Int.reduceLE, Int.reduceNeg, reduceCtorEq, Nat.reduceEqDiff, go_sem, hltI, huv, hk])) | (with_reducible refine And.intro ?_ ?_) | ((with_reducible intro hpath); try first | (exfalso; (try clear hK'); (try clear hK); omega) | (exact absurd hpath (by assumption))) | ((with_reducible first | refine gi1 ?_ | refine gi2 ?_ | refine gn1 ?_ | refine gn2 ?_ | refine gi3 ?_ | refine gn3 ?_ | refine gnot ?_); omega) | (with_reducible exact True.intro) | ((refine hK' _ _ ?_); clear hK'; clear K'))); (try simp only [aput, List.set_cons_succ, List.set_cons_zero, List.length_cons, List.length_nil, List.length_append, List.cons_append, List.nil_append, Nat.reduceAdd, List.append_nil]))))
            | (with_reducible refine AWp.seq ?_)
            | (with_reducible refine AWp.block ?_)
            | (with_reducible refine AWp.skip ?_)
            | (with_reducible refine AWp.ret ?_)
            | (with_reducible refine AWp.exit ?_)
            | (refine AWp.cond _ rfl (fun hcond => ?_) (fun hcond => ?_) <;> first | (simp only [reduceCtorEq, Bool.true_eq_false, Bool.false_eq_true] at hcond; done) | (simp only [decide_eq_true_eq, decide_eq_false_iff_not, Bool.not_eq_true', Bool.not_eq_false', Int.not_lt, Int.not_le] at hcond; try (exfalso; omega)) | skip)
            | (with_reducible refine AThen.n ?_)
            | (with_reducible refine AThen.r ?_)
            | (with_reducible refine AThen.e ?_)
            | (with_reducible refine AInBlock.n ?_)
            | (with_reducible refine AInBlock.r ?_)
            | (with_reducible refine AInBlock.hit ?_)
            | (with_reducible refine AInBlock.miss (by with_unfolding_all decide) ?_))
          refine ⟨u + 1, Weak.head2 (m := 2) (by omega) [false, true, true, false, false, true, true, false, false, false, false, false, false, false, false, false, false, false, false, false, false, false, false, false, false, false, false, false] (by first | rfl | (simp [mask, hL]; done) | (simp [mask, hL] <;> simp_all <;> omega)) (by first | rfl | (simp [mask, hL]; done) | (simp [mask, hL] <;> simp_all <;> omega)) (by (repeat' (first | exact valsIn_nil _ | exact blksIn_nil _ | exact cellsIn_nil _ | refine And.intro ?_ ?_ | refine valsIn_cons ?_ ?_ | refine blksIn_cons ?_ ?_ | refine cellsIn_cons ?_ ?_ | exact True.intro | (show _ < _; omega) | exact cellsIn_map (fun _ => True.intro) | (intro c hc; cases hc; done) | (intro c hc; simp only [List.mem_cons, List.not_mem_nil, or_false] at hc; subst hc; exact True.intro)))), ?_, ?_⟩
          · exact hlt
          · omega
    · have eu : u = n := by omega
      subst eu
      have hnl : ¬ ((u : Int) < g.n) := by omega
      repeat' (first
        | (with_reducible refine AWp.seq_region (fun K hK => ?_))
        | (with_reducible refine AWp.last_region (fun K hK => ?_))
        | (with_reducible refine AWp.seq_draw (by with_unfolding_all kernel_rfl) (fun K hK => ?_))
        | (with_reducible refine AWp.last_draw (by with_unfolding_all kernel_rfl) (fun K hK => ?_))
        | ((with_reducible first | refine vcEnd ?_ | refine vcEndD ?_ | refine vcEndM ?_); refine hK _ _ ?_; clear hK; clear K)
        | ((with_reducible first | refine vcStepN (by rfl) (by with_unfolding_all rfl) ?_ | refine vcStepND (by rfl) (by with_unfolding_all rfl) ?_ | refine vcStepNM (by rfl) (by with_unfolding_all rfl) ?_); try simp only [aput, List.set_cons_succ, List.set_cons_zero, List.length_cons, List.length_nil, List.length_append, List.cons_append, List.nil_append, Nat.reduceAdd, List.append_nil])
        | ((with_reducible first | refine vcStep (by rfl) (fun K' hK' => ?_) | refine vcStepD (by rfl) (fun K' hK' => ?_) | refine vcStepM (by rfl) (fun K' hK' => ?_) | refine vcStepG (by rfl) (by with_unfolding_all rfl) (fun hguard K' hK' => ?_) (fun hguard => ?_) | refine vcStepGD (by rfl) (by with_unfolding_all rfl) (fun hguard K' hK' => ?_) (fun hguard => ?_) | refine vcStepGM (by rfl) (by with_unfolding_all rfl) (fun hguard K' hK' => ?_) (fun hguard => ?_)) <;> ((try (replace hguard := hguard; (try simp only [decide_eq_true_eq, decide_eq_false_iff_not, Bool.not_eq_true', Bool.not_eq_false', Bool.not_true, Bool.not_false, Int.not_lt, Int.not_le, reduceCtorEq, Bool.true_eq_false, Bool.false_eq_true] at hguard); (try (exfalso; (try clear hK'); (try clear hK); omega)))) <;> ((try (simp +contextual only [Nat.reduceAdd, Nat.reduceSub, Nat.reduceMul, Nat.reduceLeDiff, Nat.reduceLT, Int.reduceToNat, Int.reduceLT, Int.reduceLE, Int.reduceNeg, reduceCtorEq, Nat.reduceEqDiff, go_sem, hnl])); (repeat' (first | ((with_reducible refine hK' _ _ ?_); clear hK'; clear K') | (with_reducible refine And.intro ?_ ?_) | ((with_reducible intro hpath); try first | (exfalso; (try clear hK'); (try clear hK); omega) | (exact absurd hpath (by assumption))) | ((with_reducible first | refine gi1 ?_ | refine gi2 ?_ | refine gn1 ?_ | refine gn2 ?_ | refine gi3 ?_ | refine gn3 ?_ | refine gnot ?_); omega) | (with_reducible exact True.intro) | ((refine hK' _ _ ?_); clear hK'; clear K'))); (try simp only [aput, List.set_cons_succ, List.set_cons_zero, List.length_cons, List.length_nil, List.length_append, List.cons_append, List.nil_append, Nat.reduceAdd, List.append_nil]))))
        | (with_reducible refine AWp.seq ?_)
        | (with_reducible refine AWp.block ?_)
        | (with_reducible refine AWp.skip ?_)
        | (with_reducible refine AWp.ret ?_)
        | (with_reducible refine AWp.exit ?_)
        | (refine AWp.cond _ rfl (fun hcond => ?_) (fun hcond => ?_) <;> first | (simp only [reduceCtorEq, Bool.true_eq_false, Bool.false_eq_true] at hcond; done) | (simp only [decide_eq_true_eq, decide_eq_false_iff_not, Bool.not_eq_true', Bool.not_eq_false', Int.not_lt, Int.not_le] at hcond; try (exfalso; omega)) | skip)
        | (with_reducible refine AThen.n ?_)
        | (with_reducible refine AThen.r ?_)
        | (with_reducible refine AThen.e ?_)
        | (with_reducible refine AInBlock.n ?_)
        | (with_reducible refine AInBlock.r ?_)
        | (with_reducible refine AInBlock.hit ?_)
        | (with_reducible refine AInBlock.miss (by with_unfolding_all decide) ?_))
      simp [Rets, aret, Blk.cells, ty, Try.results46, ares, toT1, toT, borrow, borrow0, capCell, toTree0, tint, tints, neiR]
theorem cntL_pos {es : List E} (hm : ∀ e, e ∈ es → 1 ≤ e.m) {a b : Int} : 0 < cntL es a b ↔ ∃ e, e ∈ es ∧ e.a = a ∧ e.b = b := by
  induction es with
  | nil => simp [cntL]
  | cons x xs ih =>
    have ih := ih fun e he => hm e (by simp [he])
    simp only [cntL]
    split
    · rename_i h
      exact ⟨fun _ => ⟨x, by simp, h.1, h.2⟩, fun _ => by have := hm x (by simp); omega⟩
    · rename_i h
      rw [ih]
      constructor
      · rintro ⟨e, he, h1, h2⟩; exact ⟨e, by simp [he], h1, h2⟩
      · rintro ⟨e, he, h1, h2⟩
        rcases List.mem_cons.1 he with rfl | he
        · exact absurd ⟨h1, h2⟩ h
        · exact ⟨e, he, h1, h2⟩
theorem neiL_mem {es : List E} {v u : Int} : u ∈ neiL v es ↔ ∃ e, e ∈ es ∧ e.a ≠ e.b ∧ ((e.a = v ∧ u = e.b) ∨ (e.b = v ∧ u = e.a)) := by
  simp only [neiL, List.mem_flatMap, neiE]
  constructor
  · rintro ⟨e, he, h⟩
    refine ⟨e, he, ?_⟩
    split at h
    · simp at h
    · split at h
      · simp at h; exact ⟨by assumption, .inl ⟨by assumption, h⟩⟩
      · split at h
        · simp at h; exact ⟨by assumption, .inr ⟨by assumption, h⟩⟩
        · simp at h
  · rintro ⟨e, he, hne, h⟩
    refine ⟨e, he, ?_⟩
    rw [if_neg hne]
    rcases h with ⟨h1, h2⟩ | ⟨h1, h2⟩
    · rw [if_pos h1]; simp [h2]
    · rw [if_neg (by omega), if_pos h1]; simp [h2]
theorem neiL_nodup {es : List E} (hd : distinctE es) (hr : ∀ e, e ∈ es → e.a ≤ e.b) (v : Int) : (neiL v es).Nodup := by
  induction es with
  | nil => simp [neiL]
  | cons x xs ih =>
    have hp := List.pairwise_cons.1 hd
    have ih := ih hp.2 fun e he => hr e (by simp [he])
    have hx := hr x (by simp)
    have e1 : neiL v (x :: xs) = neiE v x ++ neiL v xs := by simp [neiL]
    rw [e1, List.nodup_append]
    refine ⟨by unfold neiE; (repeat' split) <;> simp, ih, ?_⟩
    intro u hu w hw huw
    subst huw
    obtain ⟨e, he, hne, hh⟩ := neiL_mem.1 hw
    have h1 := hp.1 e he
    have h2 := hr e (by simp [he])
    unfold neiE at hu
    unfold neE at h1
    split at hu
    · simp at hu
    · split at hu
      · simp at hu; omega
      · split at hu
        · simp at hu; omega
        · simp at hu
theorem sortI_eq {l m : List Int} (hs : m.Pairwise (· < ·)) (hp : l.Perm m) : sortI l = m := by
  have h1 : (sortI l).Pairwise (fun x y => decide (x ≤ y) = true) := List.pairwise_mergeSort (by simp; omega) (by simp; omega) l
  refine List.Perm.eq_of_pairwise (le := fun x y : Int => x ≤ y) (fun a b _ _ h1 h2 => by omega) (h1.imp fun {x y} h => by simpa using h) (hs.imp fun {x y} h => by omega) ((sortI_perm l).trans hp)
theorem nei_eq {g : G} {n : Nat} (hc : checkG g = 0) (hn : g.n = n) {v : Int} (hv : 0 ≤ v ∧ v < n) : sortI (neiL v g.es) = neiR g.es v n := by
  obtain ⟨h1, h2, h3⟩ := checkG_zero.1 hc
  refine sortI_eq (inL_sorted _ _) ?_
  refine (List.perm_ext_iff_of_nodup (neiL_nodup (distinct_of h3) (fun e he => (h2 e he).2.1) v) ((inL_sorted _ _).imp fun {a b} h => by omega)).2 fun u => ?_
  rw [neiL_mem, inL_mem, neiP, Bool.and_eq_true, Bool.not_eq_true', decide_eq_false_iff_not, decide_eq_true_eq, cntL_pos (fun e he => by have := h2 e he; unfold okE at this; omega)]
  constructor
  · rintro ⟨e, he, hne, h⟩
    have := h2 e he
    unfold okE at this
    rcases h with ⟨h1, h2⟩ | ⟨h1, h2⟩
    · exact ⟨by omega, by omega, e, he, by omega, by omega⟩
    · exact ⟨by omega, by omega, e, he, by omega, by omega⟩
  · rintro ⟨h4, h5, e, he, h6, h7⟩
    refine ⟨e, he, by omega, by omega⟩
/-- GraphCounts. -/
theorem Counts_ok (g : G) (v u : Int) : ACall Try.prog 9 [tG g, tint v, tint u] (tbool true) := by
  refine ACall.of_body Try.func9 rfl (by kernel_rfl) ?_
  simp only [entry, Try.ntmps9, ofT, ofT1, ofTree, List.map_cons, List.map_nil, List.length_cons, List.length_nil, Nat.reduceAdd, Nat.reduceSub, List.replicate_succ, List.replicate_zero, List.cons_append, List.nil_append, tG, tint]
  by_cases hl : lightB g = true
  case neg =>
    have h0 : ACall Try.prog 12 [tG g] (tbool false) := by have := light_ok g; rwa [show lightB g = false by simpa using hl] at this
    repeat' (first
      | (with_reducible refine AWp.seq_region (fun K hK => ?_))
      | (with_reducible refine AWp.last_region (fun K hK => ?_))
      | (with_reducible refine AWp.seq_draw (by with_unfolding_all kernel_rfl) (fun K hK => ?_))
      | (with_reducible refine AWp.last_draw (by with_unfolding_all kernel_rfl) (fun K hK => ?_))
      | ((with_reducible first | refine vcEnd ?_ | refine vcEndD ?_ | refine vcEndM ?_); refine hK _ _ ?_; clear hK; clear K)
      | ((with_reducible first | refine vcStepN (by rfl) (by with_unfolding_all rfl) ?_ | refine vcStepND (by rfl) (by with_unfolding_all rfl) ?_ | refine vcStepNM (by rfl) (by with_unfolding_all rfl) ?_); try simp only [aput, List.set_cons_succ, List.set_cons_zero, List.length_cons, List.length_nil, List.length_append, List.cons_append, List.nil_append, Nat.reduceAdd, List.append_nil])
      | ((with_reducible first | refine vcStep (by rfl) (fun K' hK' => ?_) | refine vcStepD (by rfl) (fun K' hK' => ?_) | refine vcStepM (by rfl) (fun K' hK' => ?_) | refine vcStepG (by rfl) (by with_unfolding_all rfl) (fun hguard K' hK' => ?_) (fun hguard => ?_) | refine vcStepGD (by rfl) (by with_unfolding_all rfl) (fun hguard K' hK' => ?_) (fun hguard => ?_) | refine vcStepGM (by rfl) (by with_unfolding_all rfl) (fun hguard K' hK' => ?_) (fun hguard => ?_)) <;> ((try (replace hguard := hguard; (try simp only [decide_eq_true_eq, decide_eq_false_iff_not, Bool.not_eq_true', Bool.not_eq_false', Bool.not_true, Bool.not_false, Int.not_lt, Int.not_le, reduceCtorEq, Bool.true_eq_false, Bool.false_eq_true] at hguard); (try (exfalso; (try clear hK'); (try clear hK); omega)))) <;> ((try (simp +contextual only [Nat.reduceAdd, Nat.reduceSub, Nat.reduceMul, Nat.reduceLeDiff, Nat.reduceLT, Int.reduceToNat, Int.reduceLT, Int.reduceLE, Int.reduceNeg, reduceCtorEq, Nat.reduceEqDiff, go_sem])); (repeat' (first | ((with_reducible refine hK' _ _ ?_); clear hK'; clear K') | ((with_reducible first | refine ⟨_, _, ACall.h (h0) (by with_unfolding_all rfl), ?_⟩ | refine ⟨_, ACall.h (h0) (by with_unfolding_all rfl), ?_⟩ | refine ⟨_, _, ACall.hb (h0) (by with_unfolding_all rfl) (by with_unfolding_all rfl), ?_⟩ | refine ⟨_, ACall.hb (h0) (by with_unfolding_all rfl) (by with_unfolding_all rfl), ?_⟩ | refine ⟨_, _, ACall.h (awake_ok) (by with_unfolding_all rfl), ?_⟩ | refine ⟨_, ACall.h (awake_ok) (by with_unfolding_all rfl), ?_⟩ | refine ⟨_, _, ACall.hb (awake_ok) (by with_unfolding_all rfl) (by with_unfolding_all rfl), ?_⟩ | refine ⟨_, ACall.hb (awake_ok) (by with_unfolding_all rfl) (by with_unfolding_all rfl), ?_⟩); (try simp +contextual only [Nat.reduceAdd, Nat.reduceSub, Nat.reduceMul, Nat.reduceLeDiff, Nat.reduceLT, Int.reduceToNat, Int.reduceLT, Int.reduceLE, Int.reduceNeg, reduceCtorEq, Nat.reduceEqDiff, go_sem])) | (with_reducible refine And.intro ?_ ?_) | ((with_reducible intro hpath); try first | (exfalso; (try clear hK'); (try clear hK); omega) | (exact absurd hpath (by assumption))) | ((with_reducible first | refine gi1 ?_ | refine gi2 ?_ | refine gn1 ?_ | refine gn2 ?_ | refine gi3 ?_ | refine gn3 ?_ | refine gnot ?_); omega) | (with_reducible exact True.intro) | ((refine hK' _ _ ?_); clear hK'; clear K'))); (try simp only [aput, List.set_cons_succ, List.set_cons_zero, List.length_cons, List.length_nil, List.length_append, List.cons_append, List.nil_append, Nat.reduceAdd, List.append_nil]))))
      | (with_reducible refine AWp.seq ?_)
      | (with_reducible refine AWp.block ?_)
      | (with_reducible refine AWp.skip ?_)
      | (with_reducible refine AWp.ret ?_)
      | (with_reducible refine AWp.exit ?_)
      | (refine AWp.cond _ rfl (fun hcond => ?_) (fun hcond => ?_) <;> first | (simp only [reduceCtorEq, Bool.true_eq_false, Bool.false_eq_true] at hcond; done) | (simp only [decide_eq_true_eq, decide_eq_false_iff_not, Bool.not_eq_true', Bool.not_eq_false', Int.not_lt, Int.not_le] at hcond; try (exfalso; omega)) | skip)
      | (with_reducible refine AThen.n ?_)
      | (with_reducible refine AThen.r ?_)
      | (with_reducible refine AThen.e ?_)
      | (with_reducible refine AInBlock.n ?_)
      | (with_reducible refine AInBlock.r ?_)
      | (with_reducible refine AInBlock.hit ?_)
      | (with_reducible refine AInBlock.miss (by with_unfolding_all decide) ?_))
    simp [Rets, aret, Blk.cells, ty, Try.results9, ares, toT1, toT, borrow, borrow0, capCell, toTree0, tbool]
  have h0 : ACall Try.prog 12 [tG g] (tbool true) := by have := light_ok g; rwa [hl] at this
  have hg : g.es.length ≤ 40 := by unfold lightB at hl; simp at hl; exact hl.1
  have hD := Degree_ok g v (by omega)
  have hV := Valence_ok g v (by omega)
  have hN := Neighbours_ok g v (by omega)
  have hB := Between_ok g v u (by omega)
  have hC := CheckR_ok g (by omega)
  by_cases hc : checkG g = 0
  case neg =>
    have e1 : atE g [v] = checkG g := by unfold atE; rw [if_pos hc]
    have e2 : atE g [v, u] = checkG g := by unfold atE; rw [if_pos hc]
    rw [e1, if_pos hc] at hD hV hN
    rw [e2, if_pos hc] at hB
    generalize checkG g = E at *
    repeat' (first
      | (with_reducible refine AWp.seq_region (fun K hK => ?_))
      | (with_reducible refine AWp.last_region (fun K hK => ?_))
      | (with_reducible refine AWp.seq_draw (by with_unfolding_all kernel_rfl) (fun K hK => ?_))
      | (with_reducible refine AWp.last_draw (by with_unfolding_all kernel_rfl) (fun K hK => ?_))
      | ((with_reducible first | refine vcEnd ?_ | refine vcEndD ?_ | refine vcEndM ?_); refine hK _ _ ?_; clear hK; clear K)
      | ((with_reducible first | refine vcStepN (by rfl) (by with_unfolding_all rfl) ?_ | refine vcStepND (by rfl) (by with_unfolding_all rfl) ?_ | refine vcStepNM (by rfl) (by with_unfolding_all rfl) ?_); try simp only [aput, List.set_cons_succ, List.set_cons_zero, List.length_cons, List.length_nil, List.length_append, List.cons_append, List.nil_append, Nat.reduceAdd, List.append_nil])
      | ((with_reducible first | refine vcStep (by rfl) (fun K' hK' => ?_) | refine vcStepD (by rfl) (fun K' hK' => ?_) | refine vcStepM (by rfl) (fun K' hK' => ?_) | refine vcStepG (by rfl) (by with_unfolding_all rfl) (fun hguard K' hK' => ?_) (fun hguard => ?_) | refine vcStepGD (by rfl) (by with_unfolding_all rfl) (fun hguard K' hK' => ?_) (fun hguard => ?_) | refine vcStepGM (by rfl) (by with_unfolding_all rfl) (fun hguard K' hK' => ?_) (fun hguard => ?_)) <;> ((try (replace hguard := hguard; (try simp only [decide_eq_true_eq, decide_eq_false_iff_not, Bool.not_eq_true', Bool.not_eq_false', Bool.not_true, Bool.not_false, Int.not_lt, Int.not_le, reduceCtorEq, Bool.true_eq_false, Bool.false_eq_true] at hguard); (try (exfalso; (try clear hK'); (try clear hK); omega)))) <;> ((try (simp +contextual only [Nat.reduceAdd, Nat.reduceSub, Nat.reduceMul, Nat.reduceLeDiff, Nat.reduceLT, Int.reduceToNat, Int.reduceLT, Int.reduceLE, Int.reduceNeg, reduceCtorEq, Nat.reduceEqDiff, go_sem, hc, iRows_len])); (repeat' (first | ((with_reducible refine hK' _ _ ?_); clear hK'; clear K') | ((with_reducible first | refine ⟨_, _, ACall.h (h0) (by with_unfolding_all rfl), ?_⟩ | refine ⟨_, ACall.h (h0) (by with_unfolding_all rfl), ?_⟩ | refine ⟨_, _, ACall.hb (h0) (by with_unfolding_all rfl) (by with_unfolding_all rfl), ?_⟩ | refine ⟨_, ACall.hb (h0) (by with_unfolding_all rfl) (by with_unfolding_all rfl), ?_⟩ | refine ⟨_, _, ACall.h (awake_ok) (by with_unfolding_all rfl), ?_⟩ | refine ⟨_, ACall.h (awake_ok) (by with_unfolding_all rfl), ?_⟩ | refine ⟨_, _, ACall.hb (awake_ok) (by with_unfolding_all rfl) (by with_unfolding_all rfl), ?_⟩ | refine ⟨_, ACall.hb (awake_ok) (by with_unfolding_all rfl) (by with_unfolding_all rfl), ?_⟩ | refine ⟨_, _, ACall.h (hC) (by with_unfolding_all rfl), ?_⟩ | refine ⟨_, ACall.h (hC) (by with_unfolding_all rfl), ?_⟩ | refine ⟨_, _, ACall.hb (hC) (by with_unfolding_all rfl) (by with_unfolding_all rfl), ?_⟩ | refine ⟨_, ACall.hb (hC) (by with_unfolding_all rfl) (by with_unfolding_all rfl), ?_⟩ | refine ⟨_, _, ACall.h (hD) (by with_unfolding_all rfl), ?_⟩ | refine ⟨_, ACall.h (hD) (by with_unfolding_all rfl), ?_⟩ | refine ⟨_, _, ACall.hb (hD) (by with_unfolding_all rfl) (by with_unfolding_all rfl), ?_⟩ | refine ⟨_, ACall.hb (hD) (by with_unfolding_all rfl) (by with_unfolding_all rfl), ?_⟩ | refine ⟨_, _, ACall.h (hV) (by with_unfolding_all rfl), ?_⟩ | refine ⟨_, ACall.h (hV) (by with_unfolding_all rfl), ?_⟩ | refine ⟨_, _, ACall.hb (hV) (by with_unfolding_all rfl) (by with_unfolding_all rfl), ?_⟩ | refine ⟨_, ACall.hb (hV) (by with_unfolding_all rfl) (by with_unfolding_all rfl), ?_⟩ | refine ⟨_, _, ACall.h (hN) (by with_unfolding_all rfl), ?_⟩ | refine ⟨_, ACall.h (hN) (by with_unfolding_all rfl), ?_⟩ | refine ⟨_, _, ACall.hb (hN) (by with_unfolding_all rfl) (by with_unfolding_all rfl), ?_⟩ | refine ⟨_, ACall.hb (hN) (by with_unfolding_all rfl) (by with_unfolding_all rfl), ?_⟩ | refine ⟨_, _, ACall.h (hB) (by with_unfolding_all rfl), ?_⟩ | refine ⟨_, ACall.h (hB) (by with_unfolding_all rfl), ?_⟩ | refine ⟨_, _, ACall.hb (hB) (by with_unfolding_all rfl) (by with_unfolding_all rfl), ?_⟩ | refine ⟨_, ACall.hb (hB) (by with_unfolding_all rfl) (by with_unfolding_all rfl), ?_⟩); (try simp +contextual only [Nat.reduceAdd, Nat.reduceSub, Nat.reduceMul, Nat.reduceLeDiff, Nat.reduceLT, Int.reduceToNat, Int.reduceLT, Int.reduceLE, Int.reduceNeg, reduceCtorEq, Nat.reduceEqDiff, go_sem, hc, iRows_len])) | (with_reducible refine And.intro ?_ ?_) | ((with_reducible intro hpath); try first | (exfalso; (try clear hK'); (try clear hK); omega) | (exact absurd hpath (by assumption))) | ((with_reducible first | refine gi1 ?_ | refine gi2 ?_ | refine gn1 ?_ | refine gn2 ?_ | refine gi3 ?_ | refine gn3 ?_ | refine gnot ?_); omega) | (with_reducible exact True.intro) | ((refine hK' _ _ ?_); clear hK'; clear K'))); (try simp only [aput, List.set_cons_succ, List.set_cons_zero, List.length_cons, List.length_nil, List.length_append, List.cons_append, List.nil_append, Nat.reduceAdd, List.append_nil]))))
      | (with_reducible refine AWp.seq ?_)
      | (with_reducible refine AWp.block ?_)
      | (with_reducible refine AWp.skip ?_)
      | (with_reducible refine AWp.ret ?_)
      | (with_reducible refine AWp.exit ?_)
      | (refine AWp.cond _ rfl (fun hcond => ?_) (fun hcond => ?_) <;> first | (simp only [reduceCtorEq, Bool.true_eq_false, Bool.false_eq_true] at hcond; done) | (simp only [decide_eq_true_eq, decide_eq_false_iff_not, Bool.not_eq_true', Bool.not_eq_false', Int.not_lt, Int.not_le] at hcond; try (exfalso; omega)) | skip)
      | (with_reducible refine AThen.n ?_)
      | (with_reducible refine AThen.r ?_)
      | (with_reducible refine AThen.e ?_)
      | (with_reducible refine AInBlock.n ?_)
      | (with_reducible refine AInBlock.r ?_)
      | (with_reducible refine AInBlock.hit ?_)
      | (with_reducible refine AInBlock.miss (by with_unfolding_all decide) ?_))
    simp [Rets, aret, Blk.cells, ty, Try.results9, ares, toT1, toT, borrow, borrow0, capCell, toTree0, tbool]
  have hX := Vertex_ok g v
  have hY := Vertex_ok g u
  have hn := (checkG_zero.1 hc).1
  obtain ⟨n, hn'⟩ : ∃ n : Nat, g.n = n := ⟨g.n.toNat, by omega⟩
  rw [hc] at hC
  by_cases hv : 0 ≤ v ∧ v < g.n
  case neg =>
    have e1 : atE g [v] = 2 := by unfold atE; rw [if_neg (by omega), if_neg (by intro h; exact hv (h v (by simp)))]
    have e2 : atE g [v, u] = 2 := by unfold atE; rw [if_neg (by omega), if_neg (by intro h; exact hv (h v (by simp)))]
    rw [e1, if_pos (by decide)] at hD hV hN
    rw [e2, if_pos (by decide)] at hB
    rw [decide_eq_false hv] at hX
    repeat' (first
      | (with_reducible refine AWp.seq_region (fun K hK => ?_))
      | (with_reducible refine AWp.last_region (fun K hK => ?_))
      | (with_reducible refine AWp.seq_draw (by with_unfolding_all kernel_rfl) (fun K hK => ?_))
      | (with_reducible refine AWp.last_draw (by with_unfolding_all kernel_rfl) (fun K hK => ?_))
      | ((with_reducible first | refine vcEnd ?_ | refine vcEndD ?_ | refine vcEndM ?_); refine hK _ _ ?_; clear hK; clear K)
      | ((with_reducible first | refine vcStepN (by rfl) (by with_unfolding_all rfl) ?_ | refine vcStepND (by rfl) (by with_unfolding_all rfl) ?_ | refine vcStepNM (by rfl) (by with_unfolding_all rfl) ?_); try simp only [aput, List.set_cons_succ, List.set_cons_zero, List.length_cons, List.length_nil, List.length_append, List.cons_append, List.nil_append, Nat.reduceAdd, List.append_nil])
      | ((with_reducible first | refine vcStep (by rfl) (fun K' hK' => ?_) | refine vcStepD (by rfl) (fun K' hK' => ?_) | refine vcStepM (by rfl) (fun K' hK' => ?_) | refine vcStepG (by rfl) (by with_unfolding_all rfl) (fun hguard K' hK' => ?_) (fun hguard => ?_) | refine vcStepGD (by rfl) (by with_unfolding_all rfl) (fun hguard K' hK' => ?_) (fun hguard => ?_) | refine vcStepGM (by rfl) (by with_unfolding_all rfl) (fun hguard K' hK' => ?_) (fun hguard => ?_)) <;> ((try (replace hguard := hguard; (try simp only [decide_eq_true_eq, decide_eq_false_iff_not, Bool.not_eq_true', Bool.not_eq_false', Bool.not_true, Bool.not_false, Int.not_lt, Int.not_le, reduceCtorEq, Bool.true_eq_false, Bool.false_eq_true] at hguard); (try (exfalso; (try clear hK'); (try clear hK); omega)))) <;> ((try (simp +contextual only [Nat.reduceAdd, Nat.reduceSub, Nat.reduceMul, Nat.reduceLeDiff, Nat.reduceLT, Int.reduceToNat, Int.reduceLT, Int.reduceLE, Int.reduceNeg, reduceCtorEq, Nat.reduceEqDiff, go_sem, iRows_len])); (repeat' (first | ((with_reducible refine hK' _ _ ?_); clear hK'; clear K') | ((with_reducible first | refine ⟨_, _, ACall.h (h0) (by with_unfolding_all rfl), ?_⟩ | refine ⟨_, ACall.h (h0) (by with_unfolding_all rfl), ?_⟩ | refine ⟨_, _, ACall.hb (h0) (by with_unfolding_all rfl) (by with_unfolding_all rfl), ?_⟩ | refine ⟨_, ACall.hb (h0) (by with_unfolding_all rfl) (by with_unfolding_all rfl), ?_⟩ | refine ⟨_, _, ACall.h (awake_ok) (by with_unfolding_all rfl), ?_⟩ | refine ⟨_, ACall.h (awake_ok) (by with_unfolding_all rfl), ?_⟩ | refine ⟨_, _, ACall.hb (awake_ok) (by with_unfolding_all rfl) (by with_unfolding_all rfl), ?_⟩ | refine ⟨_, ACall.hb (awake_ok) (by with_unfolding_all rfl) (by with_unfolding_all rfl), ?_⟩ | refine ⟨_, _, ACall.h (hC) (by with_unfolding_all rfl), ?_⟩ | refine ⟨_, ACall.h (hC) (by with_unfolding_all rfl), ?_⟩ | refine ⟨_, _, ACall.hb (hC) (by with_unfolding_all rfl) (by with_unfolding_all rfl), ?_⟩ | refine ⟨_, ACall.hb (hC) (by with_unfolding_all rfl) (by with_unfolding_all rfl), ?_⟩ | refine ⟨_, _, ACall.h (hX) (by with_unfolding_all rfl), ?_⟩ | refine ⟨_, ACall.h (hX) (by with_unfolding_all rfl), ?_⟩ | refine ⟨_, _, ACall.hb (hX) (by with_unfolding_all rfl) (by with_unfolding_all rfl), ?_⟩ | refine ⟨_, ACall.hb (hX) (by with_unfolding_all rfl) (by with_unfolding_all rfl), ?_⟩ | refine ⟨_, _, ACall.h (hD) (by with_unfolding_all rfl), ?_⟩ | refine ⟨_, ACall.h (hD) (by with_unfolding_all rfl), ?_⟩ | refine ⟨_, _, ACall.hb (hD) (by with_unfolding_all rfl) (by with_unfolding_all rfl), ?_⟩ | refine ⟨_, ACall.hb (hD) (by with_unfolding_all rfl) (by with_unfolding_all rfl), ?_⟩ | refine ⟨_, _, ACall.h (hV) (by with_unfolding_all rfl), ?_⟩ | refine ⟨_, ACall.h (hV) (by with_unfolding_all rfl), ?_⟩ | refine ⟨_, _, ACall.hb (hV) (by with_unfolding_all rfl) (by with_unfolding_all rfl), ?_⟩ | refine ⟨_, ACall.hb (hV) (by with_unfolding_all rfl) (by with_unfolding_all rfl), ?_⟩ | refine ⟨_, _, ACall.h (hN) (by with_unfolding_all rfl), ?_⟩ | refine ⟨_, ACall.h (hN) (by with_unfolding_all rfl), ?_⟩ | refine ⟨_, _, ACall.hb (hN) (by with_unfolding_all rfl) (by with_unfolding_all rfl), ?_⟩ | refine ⟨_, ACall.hb (hN) (by with_unfolding_all rfl) (by with_unfolding_all rfl), ?_⟩ | refine ⟨_, _, ACall.h (hB) (by with_unfolding_all rfl), ?_⟩ | refine ⟨_, ACall.h (hB) (by with_unfolding_all rfl), ?_⟩ | refine ⟨_, _, ACall.hb (hB) (by with_unfolding_all rfl) (by with_unfolding_all rfl), ?_⟩ | refine ⟨_, ACall.hb (hB) (by with_unfolding_all rfl) (by with_unfolding_all rfl), ?_⟩); (try simp +contextual only [Nat.reduceAdd, Nat.reduceSub, Nat.reduceMul, Nat.reduceLeDiff, Nat.reduceLT, Int.reduceToNat, Int.reduceLT, Int.reduceLE, Int.reduceNeg, reduceCtorEq, Nat.reduceEqDiff, go_sem, iRows_len])) | (with_reducible refine And.intro ?_ ?_) | ((with_reducible intro hpath); try first | (exfalso; (try clear hK'); (try clear hK); omega) | (exact absurd hpath (by assumption))) | ((with_reducible first | refine gi1 ?_ | refine gi2 ?_ | refine gn1 ?_ | refine gn2 ?_ | refine gi3 ?_ | refine gn3 ?_ | refine gnot ?_); omega) | (with_reducible exact True.intro) | ((refine hK' _ _ ?_); clear hK'; clear K'))); (try simp only [aput, List.set_cons_succ, List.set_cons_zero, List.length_cons, List.length_nil, List.length_append, List.cons_append, List.nil_append, Nat.reduceAdd, List.append_nil]))))
      | (with_reducible refine AWp.seq ?_)
      | (with_reducible refine AWp.block ?_)
      | (with_reducible refine AWp.skip ?_)
      | (with_reducible refine AWp.ret ?_)
      | (with_reducible refine AWp.exit ?_)
      | (refine AWp.cond _ rfl (fun hcond => ?_) (fun hcond => ?_) <;> first | (simp only [reduceCtorEq, Bool.true_eq_false, Bool.false_eq_true] at hcond; done) | (simp only [decide_eq_true_eq, decide_eq_false_iff_not, Bool.not_eq_true', Bool.not_eq_false', Int.not_lt, Int.not_le] at hcond; try (exfalso; omega)) | skip)
      | (with_reducible refine AThen.n ?_)
      | (with_reducible refine AThen.r ?_)
      | (with_reducible refine AThen.e ?_)
      | (with_reducible refine AInBlock.n ?_)
      | (with_reducible refine AInBlock.r ?_)
      | (with_reducible refine AInBlock.hit ?_)
      | (with_reducible refine AInBlock.miss (by with_unfolding_all decide) ?_))
    simp [Rets, aret, Blk.cells, ty, Try.results9, ares, toT1, toT, borrow, borrow0, capCell, toTree0, tbool]
  have e1 : atE g [v] = 0 := by unfold atE; rw [if_neg (by omega), if_pos (by intro x hx; simp at hx; subst hx; exact hv)]
  rw [e1, if_neg (by decide)] at hD hV hN
  rw [decide_eq_true hv] at hX
  have hDR := DegreeR_ok g n hc hn' (by omega) v
  have hVR := ValenceR_ok g n hc hn' (by omega) v
  have hNR := NeighboursR_ok g n hc hn' (by omega) v
  have hBR := BetweenR_ok g v u (by omega)
  rw [valR_val hc hn' (by omega)] at hDR hVR
  rw [← (handshake hc hn').2.1 v] at hDR
  rw [← nei_eq hc hn' (by omega)] at hNR
  have hnl : (sortI (neiL v g.es)).length ≤ 40 := by rw [(sortI_perm _).length_eq]; have := neiL_len v g.es; omega
  have hEq : ACall Try.prog 30 [tints (sortI (neiL v g.es)), tints (sortI (neiL v g.es))] (tbool true) := by
    have := Equal_ok (sortI (neiL v g.es)) (sortI (neiL v g.es)) (by omega) (by omega); rwa [decide_eq_true rfl] at this
  generalize degL v (endsL g.es) = d at *
  generalize valL v g.es = w at *
  generalize sortI (neiL v g.es) = L at *
  by_cases hu : 0 ≤ u ∧ u < g.n
  · have e2 : atE g [v, u] = 0 := by unfold atE; rw [if_neg (by omega), if_pos (by intro x hx; simp at hx; rcases hx with rfl | rfl <;> assumption)]
    rw [e2, if_neg (by decide)] at hB
    rw [decide_eq_true hu] at hY
    generalize cntL g.es (min v u) (max v u) = k at *
    repeat' (first
      | (with_reducible refine AWp.seq_region (fun K hK => ?_))
      | (with_reducible refine AWp.last_region (fun K hK => ?_))
      | (with_reducible refine AWp.seq_draw (by with_unfolding_all kernel_rfl) (fun K hK => ?_))
      | (with_reducible refine AWp.last_draw (by with_unfolding_all kernel_rfl) (fun K hK => ?_))
      | ((with_reducible first | refine vcEnd ?_ | refine vcEndD ?_ | refine vcEndM ?_); refine hK _ _ ?_; clear hK; clear K)
      | ((with_reducible first | refine vcStepN (by rfl) (by with_unfolding_all rfl) ?_ | refine vcStepND (by rfl) (by with_unfolding_all rfl) ?_ | refine vcStepNM (by rfl) (by with_unfolding_all rfl) ?_); try simp only [aput, List.set_cons_succ, List.set_cons_zero, List.length_cons, List.length_nil, List.length_append, List.cons_append, List.nil_append, Nat.reduceAdd, List.append_nil])
      | ((with_reducible first | refine vcStep (by rfl) (fun K' hK' => ?_) | refine vcStepD (by rfl) (fun K' hK' => ?_) | refine vcStepM (by rfl) (fun K' hK' => ?_) | refine vcStepG (by rfl) (by with_unfolding_all rfl) (fun hguard K' hK' => ?_) (fun hguard => ?_) | refine vcStepGD (by rfl) (by with_unfolding_all rfl) (fun hguard K' hK' => ?_) (fun hguard => ?_) | refine vcStepGM (by rfl) (by with_unfolding_all rfl) (fun hguard K' hK' => ?_) (fun hguard => ?_)) <;> ((try (replace hguard := hguard; (try simp only [decide_eq_true_eq, decide_eq_false_iff_not, Bool.not_eq_true', Bool.not_eq_false', Bool.not_true, Bool.not_false, Int.not_lt, Int.not_le, reduceCtorEq, Bool.true_eq_false, Bool.false_eq_true] at hguard); (try (exfalso; (try clear hK'); (try clear hK); omega)))) <;> ((try (simp +contextual only [Nat.reduceAdd, Nat.reduceSub, Nat.reduceMul, Nat.reduceLeDiff, Nat.reduceLT, Int.reduceToNat, Int.reduceLT, Int.reduceLE, Int.reduceNeg, reduceCtorEq, Nat.reduceEqDiff, go_sem, iRows_len])); (repeat' (first | ((with_reducible refine hK' _ _ ?_); clear hK'; clear K') | ((with_reducible first | refine ⟨_, _, ACall.h (h0) (by with_unfolding_all rfl), ?_⟩ | refine ⟨_, ACall.h (h0) (by with_unfolding_all rfl), ?_⟩ | refine ⟨_, _, ACall.hb (h0) (by with_unfolding_all rfl) (by with_unfolding_all rfl), ?_⟩ | refine ⟨_, ACall.hb (h0) (by with_unfolding_all rfl) (by with_unfolding_all rfl), ?_⟩ | refine ⟨_, _, ACall.h (awake_ok) (by with_unfolding_all rfl), ?_⟩ | refine ⟨_, ACall.h (awake_ok) (by with_unfolding_all rfl), ?_⟩ | refine ⟨_, _, ACall.hb (awake_ok) (by with_unfolding_all rfl) (by with_unfolding_all rfl), ?_⟩ | refine ⟨_, ACall.hb (awake_ok) (by with_unfolding_all rfl) (by with_unfolding_all rfl), ?_⟩ | refine ⟨_, _, ACall.h (hC) (by with_unfolding_all rfl), ?_⟩ | refine ⟨_, ACall.h (hC) (by with_unfolding_all rfl), ?_⟩ | refine ⟨_, _, ACall.hb (hC) (by with_unfolding_all rfl) (by with_unfolding_all rfl), ?_⟩ | refine ⟨_, ACall.hb (hC) (by with_unfolding_all rfl) (by with_unfolding_all rfl), ?_⟩ | refine ⟨_, _, ACall.h (hX) (by with_unfolding_all rfl), ?_⟩ | refine ⟨_, ACall.h (hX) (by with_unfolding_all rfl), ?_⟩ | refine ⟨_, _, ACall.hb (hX) (by with_unfolding_all rfl) (by with_unfolding_all rfl), ?_⟩ | refine ⟨_, ACall.hb (hX) (by with_unfolding_all rfl) (by with_unfolding_all rfl), ?_⟩ | refine ⟨_, _, ACall.h (hY) (by with_unfolding_all rfl), ?_⟩ | refine ⟨_, ACall.h (hY) (by with_unfolding_all rfl), ?_⟩ | refine ⟨_, _, ACall.hb (hY) (by with_unfolding_all rfl) (by with_unfolding_all rfl), ?_⟩ | refine ⟨_, ACall.hb (hY) (by with_unfolding_all rfl) (by with_unfolding_all rfl), ?_⟩ | refine ⟨_, _, ACall.h (hD) (by with_unfolding_all rfl), ?_⟩ | refine ⟨_, ACall.h (hD) (by with_unfolding_all rfl), ?_⟩ | refine ⟨_, _, ACall.hb (hD) (by with_unfolding_all rfl) (by with_unfolding_all rfl), ?_⟩ | refine ⟨_, ACall.hb (hD) (by with_unfolding_all rfl) (by with_unfolding_all rfl), ?_⟩ | refine ⟨_, _, ACall.h (hV) (by with_unfolding_all rfl), ?_⟩ | refine ⟨_, ACall.h (hV) (by with_unfolding_all rfl), ?_⟩ | refine ⟨_, _, ACall.hb (hV) (by with_unfolding_all rfl) (by with_unfolding_all rfl), ?_⟩ | refine ⟨_, ACall.hb (hV) (by with_unfolding_all rfl) (by with_unfolding_all rfl), ?_⟩ | refine ⟨_, _, ACall.h (hN) (by with_unfolding_all rfl), ?_⟩ | refine ⟨_, ACall.h (hN) (by with_unfolding_all rfl), ?_⟩ | refine ⟨_, _, ACall.hb (hN) (by with_unfolding_all rfl) (by with_unfolding_all rfl), ?_⟩ | refine ⟨_, ACall.hb (hN) (by with_unfolding_all rfl) (by with_unfolding_all rfl), ?_⟩ | refine ⟨_, _, ACall.h (hB) (by with_unfolding_all rfl), ?_⟩ | refine ⟨_, ACall.h (hB) (by with_unfolding_all rfl), ?_⟩ | refine ⟨_, _, ACall.hb (hB) (by with_unfolding_all rfl) (by with_unfolding_all rfl), ?_⟩ | refine ⟨_, ACall.hb (hB) (by with_unfolding_all rfl) (by with_unfolding_all rfl), ?_⟩ | refine ⟨_, _, ACall.h (hBR) (by with_unfolding_all rfl), ?_⟩ | refine ⟨_, ACall.h (hBR) (by with_unfolding_all rfl), ?_⟩ | refine ⟨_, _, ACall.hb (hBR) (by with_unfolding_all rfl) (by with_unfolding_all rfl), ?_⟩ | refine ⟨_, ACall.hb (hBR) (by with_unfolding_all rfl) (by with_unfolding_all rfl), ?_⟩ | refine ⟨_, _, ACall.h (hDR) (by with_unfolding_all rfl), ?_⟩ | refine ⟨_, ACall.h (hDR) (by with_unfolding_all rfl), ?_⟩ | refine ⟨_, _, ACall.hb (hDR) (by with_unfolding_all rfl) (by with_unfolding_all rfl), ?_⟩ | refine ⟨_, ACall.hb (hDR) (by with_unfolding_all rfl) (by with_unfolding_all rfl), ?_⟩ | refine ⟨_, _, ACall.h (hVR) (by with_unfolding_all rfl), ?_⟩ | refine ⟨_, ACall.h (hVR) (by with_unfolding_all rfl), ?_⟩ | refine ⟨_, _, ACall.hb (hVR) (by with_unfolding_all rfl) (by with_unfolding_all rfl), ?_⟩ | refine ⟨_, ACall.hb (hVR) (by with_unfolding_all rfl) (by with_unfolding_all rfl), ?_⟩ | refine ⟨_, _, ACall.h (hNR) (by with_unfolding_all rfl), ?_⟩ | refine ⟨_, ACall.h (hNR) (by with_unfolding_all rfl), ?_⟩ | refine ⟨_, _, ACall.hb (hNR) (by with_unfolding_all rfl) (by with_unfolding_all rfl), ?_⟩ | refine ⟨_, ACall.hb (hNR) (by with_unfolding_all rfl) (by with_unfolding_all rfl), ?_⟩ | refine ⟨_, _, ACall.h (hEq) (by with_unfolding_all rfl), ?_⟩ | refine ⟨_, ACall.h (hEq) (by with_unfolding_all rfl), ?_⟩ | refine ⟨_, _, ACall.hb (hEq) (by with_unfolding_all rfl) (by with_unfolding_all rfl), ?_⟩ | refine ⟨_, ACall.hb (hEq) (by with_unfolding_all rfl) (by with_unfolding_all rfl), ?_⟩); (try simp +contextual only [Nat.reduceAdd, Nat.reduceSub, Nat.reduceMul, Nat.reduceLeDiff, Nat.reduceLT, Int.reduceToNat, Int.reduceLT, Int.reduceLE, Int.reduceNeg, reduceCtorEq, Nat.reduceEqDiff, go_sem, iRows_len])) | (with_reducible refine And.intro ?_ ?_) | ((with_reducible intro hpath); try first | (exfalso; (try clear hK'); (try clear hK); omega) | (exact absurd hpath (by assumption))) | ((with_reducible first | refine gi1 ?_ | refine gi2 ?_ | refine gn1 ?_ | refine gn2 ?_ | refine gi3 ?_ | refine gn3 ?_ | refine gnot ?_); omega) | (with_reducible exact True.intro) | ((refine hK' _ _ ?_); clear hK'; clear K'))); (try simp only [aput, List.set_cons_succ, List.set_cons_zero, List.length_cons, List.length_nil, List.length_append, List.cons_append, List.nil_append, Nat.reduceAdd, List.append_nil]))))
      | (with_reducible refine AWp.seq ?_)
      | (with_reducible refine AWp.block ?_)
      | (with_reducible refine AWp.skip ?_)
      | (with_reducible refine AWp.ret ?_)
      | (with_reducible refine AWp.exit ?_)
      | (refine AWp.cond _ rfl (fun hcond => ?_) (fun hcond => ?_) <;> first | (simp only [reduceCtorEq, Bool.true_eq_false, Bool.false_eq_true] at hcond; done) | (simp only [decide_eq_true_eq, decide_eq_false_iff_not, Bool.not_eq_true', Bool.not_eq_false', Int.not_lt, Int.not_le] at hcond; try (exfalso; omega)) | skip)
      | (with_reducible refine AThen.n ?_)
      | (with_reducible refine AThen.r ?_)
      | (with_reducible refine AThen.e ?_)
      | (with_reducible refine AInBlock.n ?_)
      | (with_reducible refine AInBlock.r ?_)
      | (with_reducible refine AInBlock.hit ?_)
      | (with_reducible refine AInBlock.miss (by with_unfolding_all decide) ?_))
    simp [Rets, aret, Blk.cells, ty, Try.results9, ares, toT1, toT, borrow, borrow0, capCell, toTree0, tbool]
  · have e2 : atE g [v, u] = 2 := by unfold atE; rw [if_neg (by omega), if_neg (by intro h; exact hu (h u (by simp)))]
    rw [e2, if_pos (by decide)] at hB
    rw [decide_eq_false hu] at hY
    repeat' (first
      | (with_reducible refine AWp.seq_region (fun K hK => ?_))
      | (with_reducible refine AWp.last_region (fun K hK => ?_))
      | (with_reducible refine AWp.seq_draw (by with_unfolding_all kernel_rfl) (fun K hK => ?_))
      | (with_reducible refine AWp.last_draw (by with_unfolding_all kernel_rfl) (fun K hK => ?_))
      | ((with_reducible first | refine vcEnd ?_ | refine vcEndD ?_ | refine vcEndM ?_); refine hK _ _ ?_; clear hK; clear K)
      | ((with_reducible first | refine vcStepN (by rfl) (by with_unfolding_all rfl) ?_ | refine vcStepND (by rfl) (by with_unfolding_all rfl) ?_ | refine vcStepNM (by rfl) (by with_unfolding_all rfl) ?_); try simp only [aput, List.set_cons_succ, List.set_cons_zero, List.length_cons, List.length_nil, List.length_append, List.cons_append, List.nil_append, Nat.reduceAdd, List.append_nil])
      | ((with_reducible first | refine vcStep (by rfl) (fun K' hK' => ?_) | refine vcStepD (by rfl) (fun K' hK' => ?_) | refine vcStepM (by rfl) (fun K' hK' => ?_) | refine vcStepG (by rfl) (by with_unfolding_all rfl) (fun hguard K' hK' => ?_) (fun hguard => ?_) | refine vcStepGD (by rfl) (by with_unfolding_all rfl) (fun hguard K' hK' => ?_) (fun hguard => ?_) | refine vcStepGM (by rfl) (by with_unfolding_all rfl) (fun hguard K' hK' => ?_) (fun hguard => ?_)) <;> ((try (replace hguard := hguard; (try simp only [decide_eq_true_eq, decide_eq_false_iff_not, Bool.not_eq_true', Bool.not_eq_false', Bool.not_true, Bool.not_false, Int.not_lt, Int.not_le, reduceCtorEq, Bool.true_eq_false, Bool.false_eq_true] at hguard); (try (exfalso; (try clear hK'); (try clear hK); omega)))) <;> ((try (simp +contextual only [Nat.reduceAdd, Nat.reduceSub, Nat.reduceMul, Nat.reduceLeDiff, Nat.reduceLT, Int.reduceToNat, Int.reduceLT, Int.reduceLE, Int.reduceNeg, reduceCtorEq, Nat.reduceEqDiff, go_sem, iRows_len])); (repeat' (first | ((with_reducible refine hK' _ _ ?_); clear hK'; clear K') | ((with_reducible first | refine ⟨_, _, ACall.h (h0) (by with_unfolding_all rfl), ?_⟩ | refine ⟨_, ACall.h (h0) (by with_unfolding_all rfl), ?_⟩ | refine ⟨_, _, ACall.hb (h0) (by with_unfolding_all rfl) (by with_unfolding_all rfl), ?_⟩ | refine ⟨_, ACall.hb (h0) (by with_unfolding_all rfl) (by with_unfolding_all rfl), ?_⟩ | refine ⟨_, _, ACall.h (awake_ok) (by with_unfolding_all rfl), ?_⟩ | refine ⟨_, ACall.h (awake_ok) (by with_unfolding_all rfl), ?_⟩ | refine ⟨_, _, ACall.hb (awake_ok) (by with_unfolding_all rfl) (by with_unfolding_all rfl), ?_⟩ | refine ⟨_, ACall.hb (awake_ok) (by with_unfolding_all rfl) (by with_unfolding_all rfl), ?_⟩ | refine ⟨_, _, ACall.h (hC) (by with_unfolding_all rfl), ?_⟩ | refine ⟨_, ACall.h (hC) (by with_unfolding_all rfl), ?_⟩ | refine ⟨_, _, ACall.hb (hC) (by with_unfolding_all rfl) (by with_unfolding_all rfl), ?_⟩ | refine ⟨_, ACall.hb (hC) (by with_unfolding_all rfl) (by with_unfolding_all rfl), ?_⟩ | refine ⟨_, _, ACall.h (hX) (by with_unfolding_all rfl), ?_⟩ | refine ⟨_, ACall.h (hX) (by with_unfolding_all rfl), ?_⟩ | refine ⟨_, _, ACall.hb (hX) (by with_unfolding_all rfl) (by with_unfolding_all rfl), ?_⟩ | refine ⟨_, ACall.hb (hX) (by with_unfolding_all rfl) (by with_unfolding_all rfl), ?_⟩ | refine ⟨_, _, ACall.h (hY) (by with_unfolding_all rfl), ?_⟩ | refine ⟨_, ACall.h (hY) (by with_unfolding_all rfl), ?_⟩ | refine ⟨_, _, ACall.hb (hY) (by with_unfolding_all rfl) (by with_unfolding_all rfl), ?_⟩ | refine ⟨_, ACall.hb (hY) (by with_unfolding_all rfl) (by with_unfolding_all rfl), ?_⟩ | refine ⟨_, _, ACall.h (hD) (by with_unfolding_all rfl), ?_⟩ | refine ⟨_, ACall.h (hD) (by with_unfolding_all rfl), ?_⟩ | refine ⟨_, _, ACall.hb (hD) (by with_unfolding_all rfl) (by with_unfolding_all rfl), ?_⟩ | refine ⟨_, ACall.hb (hD) (by with_unfolding_all rfl) (by with_unfolding_all rfl), ?_⟩ | refine ⟨_, _, ACall.h (hV) (by with_unfolding_all rfl), ?_⟩ | refine ⟨_, ACall.h (hV) (by with_unfolding_all rfl), ?_⟩ | refine ⟨_, _, ACall.hb (hV) (by with_unfolding_all rfl) (by with_unfolding_all rfl), ?_⟩ | refine ⟨_, ACall.hb (hV) (by with_unfolding_all rfl) (by with_unfolding_all rfl), ?_⟩ | refine ⟨_, _, ACall.h (hN) (by with_unfolding_all rfl), ?_⟩ | refine ⟨_, ACall.h (hN) (by with_unfolding_all rfl), ?_⟩ | refine ⟨_, _, ACall.hb (hN) (by with_unfolding_all rfl) (by with_unfolding_all rfl), ?_⟩ | refine ⟨_, ACall.hb (hN) (by with_unfolding_all rfl) (by with_unfolding_all rfl), ?_⟩ | refine ⟨_, _, ACall.h (hB) (by with_unfolding_all rfl), ?_⟩ | refine ⟨_, ACall.h (hB) (by with_unfolding_all rfl), ?_⟩ | refine ⟨_, _, ACall.hb (hB) (by with_unfolding_all rfl) (by with_unfolding_all rfl), ?_⟩ | refine ⟨_, ACall.hb (hB) (by with_unfolding_all rfl) (by with_unfolding_all rfl), ?_⟩ | refine ⟨_, _, ACall.h (hDR) (by with_unfolding_all rfl), ?_⟩ | refine ⟨_, ACall.h (hDR) (by with_unfolding_all rfl), ?_⟩ | refine ⟨_, _, ACall.hb (hDR) (by with_unfolding_all rfl) (by with_unfolding_all rfl), ?_⟩ | refine ⟨_, ACall.hb (hDR) (by with_unfolding_all rfl) (by with_unfolding_all rfl), ?_⟩ | refine ⟨_, _, ACall.h (hVR) (by with_unfolding_all rfl), ?_⟩ | refine ⟨_, ACall.h (hVR) (by with_unfolding_all rfl), ?_⟩ | refine ⟨_, _, ACall.hb (hVR) (by with_unfolding_all rfl) (by with_unfolding_all rfl), ?_⟩ | refine ⟨_, ACall.hb (hVR) (by with_unfolding_all rfl) (by with_unfolding_all rfl), ?_⟩ | refine ⟨_, _, ACall.h (hNR) (by with_unfolding_all rfl), ?_⟩ | refine ⟨_, ACall.h (hNR) (by with_unfolding_all rfl), ?_⟩ | refine ⟨_, _, ACall.hb (hNR) (by with_unfolding_all rfl) (by with_unfolding_all rfl), ?_⟩ | refine ⟨_, ACall.hb (hNR) (by with_unfolding_all rfl) (by with_unfolding_all rfl), ?_⟩ | refine ⟨_, _, ACall.h (hEq) (by with_unfolding_all rfl), ?_⟩ | refine ⟨_, ACall.h (hEq) (by with_unfolding_all rfl), ?_⟩ | refine ⟨_, _, ACall.hb (hEq) (by with_unfolding_all rfl) (by with_unfolding_all rfl), ?_⟩ | refine ⟨_, ACall.hb (hEq) (by with_unfolding_all rfl) (by with_unfolding_all rfl), ?_⟩); (try simp +contextual only [Nat.reduceAdd, Nat.reduceSub, Nat.reduceMul, Nat.reduceLeDiff, Nat.reduceLT, Int.reduceToNat, Int.reduceLT, Int.reduceLE, Int.reduceNeg, reduceCtorEq, Nat.reduceEqDiff, go_sem, iRows_len])) | (with_reducible refine And.intro ?_ ?_) | ((with_reducible intro hpath); try first | (exfalso; (try clear hK'); (try clear hK); omega) | (exact absurd hpath (by assumption))) | ((with_reducible first | refine gi1 ?_ | refine gi2 ?_ | refine gn1 ?_ | refine gn2 ?_ | refine gi3 ?_ | refine gn3 ?_ | refine gnot ?_); omega) | (with_reducible exact True.intro) | ((refine hK' _ _ ?_); clear hK'; clear K'))); (try simp only [aput, List.set_cons_succ, List.set_cons_zero, List.length_cons, List.length_nil, List.length_append, List.cons_append, List.nil_append, Nat.reduceAdd, List.append_nil]))))
      | (with_reducible refine AWp.seq ?_)
      | (with_reducible refine AWp.block ?_)
      | (with_reducible refine AWp.skip ?_)
      | (with_reducible refine AWp.ret ?_)
      | (with_reducible refine AWp.exit ?_)
      | (refine AWp.cond _ rfl (fun hcond => ?_) (fun hcond => ?_) <;> first | (simp only [reduceCtorEq, Bool.true_eq_false, Bool.false_eq_true] at hcond; done) | (simp only [decide_eq_true_eq, decide_eq_false_iff_not, Bool.not_eq_true', Bool.not_eq_false', Int.not_lt, Int.not_le] at hcond; try (exfalso; omega)) | skip)
      | (with_reducible refine AThen.n ?_)
      | (with_reducible refine AThen.r ?_)
      | (with_reducible refine AThen.e ?_)
      | (with_reducible refine AInBlock.n ?_)
      | (with_reducible refine AInBlock.r ?_)
      | (with_reducible refine AInBlock.hit ?_)
      | (with_reducible refine AInBlock.miss (by with_unfolding_all decide) ?_))
    simp [Rets, aret, Blk.cells, ty, Try.results9, ares, toT1, toT, borrow, borrow0, capCell, toTree0, tbool]
end Go.Proofs.Ytbdpkgckdkpepaa
