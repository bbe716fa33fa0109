/- A part of the proof: contracts of functions of the program, or plain lemmas. -/
import Derived.Test.YtbdpkgckdkpepaaG24
import Derived.Test.YtbdpkgckdkpepaaG22
set_option linter.all false
namespace Go.Proofs.Ytbdpkgckdkpepaa
open Go.Sp
set_option linter.unusedSimpArgs false
set_option linter.unusedVariables false
set_option maxHeartbeats 4000000
set_option maxRecDepth 100000


def bitV (w : Int) (v : Nat) : Int := ibit .and .u16 (w.fdiv (2 ^ min v 16)) 1
def pB (w : Int) (v : Int) : Bool := !decide (bitV w v.toNat = 0)
theorem pB_nat (w : Int) (v : Nat) : pB w v = !decide (bitV w v = 0) := rfl
theorem Divides_ok (g : G) (w : Int) : ACall Try.prog 6 [tG g, .t (.int .u16 w)] (tbool true) := by
  refine ACall.of_body Try.func6 rfl (by kernel_rfl) ?_
  simp only [entry, Try.ntmps6, ofT, ofT1, ofTree, List.map_cons, List.map_nil, List.length_cons, List.length_nil, Nat.reduceAdd, Nat.reduceSub, List.replicate_succ, List.replicate_zero, List.cons_append, List.nil_append, tG]
  by_cases hr : rightB g = true
  case neg =>
    have h0 : ACall Try.prog 33 [tG g] (tbool false) := by have := right_ok g; rwa [show rightB g = false by simpa using hr] at this
    repeat' (first
      | (with_reducible refine AWp.seq_region (fun K hK => ?_))
      | (with_reducible refine AWp.last_region (fun K hK => ?_))
      | (with_reducible refine AWp.seq_draw (by with_unfolding_all kernel_rfl) (fun K hK => ?_))
      | (with_reducible refine AWp.last_draw (by with_unfolding_all kernel_rfl) (fun K hK => ?_))
      | ((with_reducible first | refine vcEnd ?_ | refine vcEndD ?_ | refine vcEndM ?_); refine hK _ _ ?_; clear hK; clear K)
      | ((with_reducible first | refine vcStepN (by rfl) (by with_unfolding_all rfl) ?_ | refine vcStepND (by rfl) (by with_unfolding_all rfl) ?_ | refine vcStepNM (by rfl) (by with_unfolding_all rfl) ?_); try simp only [aput, List.set_cons_succ, List.set_cons_zero, List.length_cons, List.length_nil, List.length_append, List.cons_append, List.nil_append, Nat.reduceAdd, List.append_nil])
      | ((with_reducible first | refine vcStep (by rfl) (fun K' hK' => ?_) | refine vcStepD (by rfl) (fun K' hK' => ?_) | refine vcStepM (by rfl) (fun K' hK' => ?_) | refine vcStepG (by rfl) (by with_unfolding_all rfl) (fun hguard K' hK' => ?_) (fun hguard => ?_) | refine vcStepGD (by rfl) (by with_unfolding_all rfl) (fun hguard K' hK' => ?_) (fun hguard => ?_) | refine vcStepGM (by rfl) (by with_unfolding_all rfl) (fun hguard K' hK' => ?_) (fun hguard => ?_)) <;> ((try (replace hguard := hguard; (try simp only [decide_eq_true_eq, decide_eq_false_iff_not, Bool.not_eq_true', Bool.not_eq_false', Bool.not_true, Bool.not_false, Int.not_lt, Int.not_le, reduceCtorEq, Bool.true_eq_false, Bool.false_eq_true] at hguard); (try (exfalso; (try clear hK'); (try clear hK); omega)))) <;> ((try (simp +contextual only [Nat.reduceAdd, Nat.reduceSub, Nat.reduceMul, Nat.reduceLeDiff, Nat.reduceLT, Int.reduceToNat, Int.reduceLT, Int.reduceLE, Int.reduceNeg, reduceCtorEq, Nat.reduceEqDiff, go_sem])); (repeat' (first | ((with_reducible refine hK' _ _ ?_); clear hK'; clear K'; try simp only [aput, List.set_cons_succ, List.set_cons_zero, List.length_cons, List.length_nil, List.length_append, List.cons_append, List.nil_append, Nat.reduceAdd, List.append_nil]) | ((with_reducible first | refine ⟨_, _, ACall.h (h0) (by with_unfolding_all rfl), ?_⟩ | refine ⟨_, ACall.h (h0) (by with_unfolding_all rfl), ?_⟩ | refine ⟨_, _, ACall.hb (h0) (by with_unfolding_all rfl) (by with_unfolding_all rfl), ?_⟩ | refine ⟨_, ACall.hb (h0) (by with_unfolding_all rfl) (by with_unfolding_all rfl), ?_⟩ | refine ⟨_, _, ACall.h (awake_ok) (by with_unfolding_all rfl), ?_⟩ | refine ⟨_, ACall.h (awake_ok) (by with_unfolding_all rfl), ?_⟩ | refine ⟨_, _, ACall.hb (awake_ok) (by with_unfolding_all rfl) (by with_unfolding_all rfl), ?_⟩ | refine ⟨_, ACall.hb (awake_ok) (by with_unfolding_all rfl) (by with_unfolding_all rfl), ?_⟩); (try simp +contextual only [Nat.reduceAdd, Nat.reduceSub, Nat.reduceMul, Nat.reduceLeDiff, Nat.reduceLT, Int.reduceToNat, Int.reduceLT, Int.reduceLE, Int.reduceNeg, reduceCtorEq, Nat.reduceEqDiff, go_sem])) | (with_reducible refine And.intro ?_ ?_) | ((with_reducible intro hpath); try first | (exfalso; (try clear hK'); (try clear hK); omega) | (exact absurd hpath (by assumption))) | ((with_reducible first | refine gi1 ?_ | refine gi2 ?_ | refine gn1 ?_ | refine gn2 ?_ | refine gi3 ?_ | refine gn3 ?_ | refine gnot ?_); omega) | (with_reducible exact True.intro) | ((refine hK' _ _ ?_); clear hK'; clear K'; try simp only [aput, List.set_cons_succ, List.set_cons_zero, List.length_cons, List.length_nil, List.length_append, List.cons_append, List.nil_append, Nat.reduceAdd, List.append_nil]))); (try simp only [aput, List.set_cons_succ, List.set_cons_zero, List.length_cons, List.length_nil, List.length_append, List.cons_append, List.nil_append, Nat.reduceAdd, List.append_nil]))))
      | (with_reducible refine AWp.seq ?_)
      | (with_reducible refine AWp.block ?_)
      | (with_reducible refine AWp.skip ?_)
      | (with_reducible refine AWp.ret ?_)
      | (with_reducible refine AWp.exit ?_)
      | (refine AWp.cond _ rfl (fun hcond => ?_) (fun hcond => ?_) <;> first | (simp only [reduceCtorEq, Bool.true_eq_false, Bool.false_eq_true] at hcond; done) | (simp only [decide_eq_true_eq, decide_eq_false_iff_not, Bool.not_eq_true', Bool.not_eq_false', Int.not_lt, Int.not_le] at hcond; try (exfalso; omega)) | skip)
      | (with_reducible refine AThen.n ?_)
      | (with_reducible refine AThen.r ?_)
      | (with_reducible refine AThen.e ?_)
      | (with_reducible refine AInBlock.n ?_)
      | (with_reducible refine AInBlock.r ?_)
      | (with_reducible refine AInBlock.hit ?_)
      | (with_reducible refine AInBlock.miss (by with_unfolding_all decide) ?_))
    simp [Rets, aret, Blk.cells, ty, Try.results6, ares, toT1, toT, borrow, borrow0, capCell, toTree0, tbool]
  have h0 : ACall Try.prog 33 [tG g] (tbool true) := by have := right_ok g; rwa [hr] at this
  obtain ⟨n, hR⟩ := rightG_of hr
  have hl := hR.l
  have hn := hR.nn
  have hn12 := hR.n12
  have hs400 := hR.s
  have hc := hR.c
  have hdb : ∀ v : Nat, 0 ≤ degL v (endsL g.es) ∧ degL v (endsL g.es) ≤ 800 := fun v => by have := degL_bound v (endsL g.es); omega
  have hSb : ∀ v : Nat, v ≤ n → 0 ≤ sumR (fun v => if pB w v then degL v (endsL g.es) else 0) v ∧ sumR (fun v => if pB w v then degL v (endsL g.es) else 0) v ≤ 800 * 12 := fun v hv => by
    have := sumR_bound (f := fun v => if pB w v then degL v (endsL g.es) else 0) (n := v) (k := 800) (fun i _ => by have := hdb i; (try simp only); split <;> omega)
    omega
  repeat' (first
    | (with_reducible refine AWp.seq_region (fun K hK => ?_))
    | (with_reducible refine AWp.last_region (fun K hK => ?_))
    | (with_reducible refine AWp.seq_draw (by with_unfolding_all kernel_rfl) (fun K hK => ?_))
    | (with_reducible refine AWp.last_draw (by with_unfolding_all kernel_rfl) (fun K hK => ?_))
    | ((with_reducible first | refine vcEnd ?_ | refine vcEndD ?_ | refine vcEndM ?_); refine hK _ _ ?_; clear hK; clear K)
    | ((with_reducible first | refine vcStepN (by rfl) (by with_unfolding_all rfl) ?_ | refine vcStepND (by rfl) (by with_unfolding_all rfl) ?_ | refine vcStepNM (by rfl) (by with_unfolding_all rfl) ?_); try simp only [aput, List.set_cons_succ, List.set_cons_zero, List.length_cons, List.length_nil, List.length_append, List.cons_append, List.nil_append, Nat.reduceAdd, List.append_nil])
    | ((with_reducible first | refine vcStep (by rfl) (fun K' hK' => ?_) | refine vcStepD (by rfl) (fun K' hK' => ?_) | refine vcStepM (by rfl) (fun K' hK' => ?_) | refine vcStepG (by rfl) (by with_unfolding_all rfl) (fun hguard K' hK' => ?_) (fun hguard => ?_) | refine vcStepGD (by rfl) (by with_unfolding_all rfl) (fun hguard K' hK' => ?_) (fun hguard => ?_) | refine vcStepGM (by rfl) (by with_unfolding_all rfl) (fun hguard K' hK' => ?_) (fun hguard => ?_)) <;> ((try (replace hguard := hguard; (try simp only [decide_eq_true_eq, decide_eq_false_iff_not, Bool.not_eq_true', Bool.not_eq_false', Bool.not_true, Bool.not_false, Int.not_lt, Int.not_le, reduceCtorEq, Bool.true_eq_false, Bool.false_eq_true] at hguard); (try (exfalso; (try clear hK'); (try clear hK); omega)))) <;> ((try (simp +contextual only [Nat.reduceAdd, Nat.reduceSub, Nat.reduceMul, Nat.reduceLeDiff, Nat.reduceLT, Int.reduceToNat, Int.reduceLT, Int.reduceLE, Int.reduceNeg, reduceCtorEq, Nat.reduceEqDiff, go_sem])); (repeat' (first | ((with_reducible refine hK' _ _ ?_); clear hK'; clear K'; try simp only [aput, List.set_cons_succ, List.set_cons_zero, List.length_cons, List.length_nil, List.length_append, List.cons_append, List.nil_append, Nat.reduceAdd, List.append_nil]) | ((with_reducible first | refine ⟨_, _, ACall.h (h0) (by with_unfolding_all rfl), ?_⟩ | refine ⟨_, ACall.h (h0) (by with_unfolding_all rfl), ?_⟩ | refine ⟨_, _, ACall.hb (h0) (by with_unfolding_all rfl) (by with_unfolding_all rfl), ?_⟩ | refine ⟨_, ACall.hb (h0) (by with_unfolding_all rfl) (by with_unfolding_all rfl), ?_⟩); (try simp +contextual only [Nat.reduceAdd, Nat.reduceSub, Nat.reduceMul, Nat.reduceLeDiff, Nat.reduceLT, Int.reduceToNat, Int.reduceLT, Int.reduceLE, Int.reduceNeg, reduceCtorEq, Nat.reduceEqDiff, go_sem])) | (with_reducible refine And.intro ?_ ?_) | ((with_reducible intro hpath); try first | (exfalso; (try clear hK'); (try clear hK); omega) | (exact absurd hpath (by assumption))) | ((with_reducible first | refine gi1 ?_ | refine gi2 ?_ | refine gn1 ?_ | refine gn2 ?_ | refine gi3 ?_ | refine gn3 ?_ | refine gnot ?_); omega) | (with_reducible exact True.intro) | ((refine hK' _ _ ?_); clear hK'; clear K'; try simp only [aput, List.set_cons_succ, List.set_cons_zero, List.length_cons, List.length_nil, List.length_append, List.cons_append, List.nil_append, Nat.reduceAdd, List.append_nil]))); (try simp only [aput, List.set_cons_succ, List.set_cons_zero, List.length_cons, List.length_nil, List.length_append, List.cons_append, List.nil_append, Nat.reduceAdd, List.append_nil]))))
    | (with_reducible refine AWp.seq ?_)
    | (with_reducible refine AWp.block ?_)
    | (with_reducible refine AWp.skip ?_)
    | (with_reducible refine AWp.ret ?_)
    | (with_reducible refine AWp.exit ?_)
    | (refine AWp.cond _ rfl (fun hcond => ?_) (fun hcond => ?_) <;> first | (simp only [reduceCtorEq, Bool.true_eq_false, Bool.false_eq_true] at hcond; done) | (simp only [decide_eq_true_eq, decide_eq_false_iff_not, Bool.not_eq_true', Bool.not_eq_false', Int.not_lt, Int.not_le] at hcond; try (exfalso; omega)) | skip)
    | (with_reducible refine AThen.n ?_)
    | (with_reducible refine AThen.r ?_)
    | (with_reducible refine AThen.e ?_)
    | (with_reducible refine AInBlock.n ?_)
    | (with_reducible refine AInBlock.r ?_)
    | (with_reducible refine AInBlock.hit ?_)
    | (with_reducible refine AInBlock.miss (by with_unfolding_all decide) ?_))
  refine AWp.weak (Weak.opens [false, false, false, false, false, true, false, false, false, false, false, false, false, false, false, false, false, false, false, false, false, false, false, false, false, false, false, false, false, false, false, false, false, false, false, false, false, false, false, false, false, false, false, false, false, false, false, false, false, false, false, false, false, false, false, false, false, false, false, false, false, false, false, false, false, false, false, false, false, false, false, false, false, false, false, false, false, false, false, false, false, false, false, false, false, false, false, false, false, false, false, false, false, false, false, false, false, false, false, false, false, false, false, false, false, false, false, false, false] 1 (by omega)) ?_
  simp only [openS, openV, List.length_cons, List.length_nil, List.length_append, Nat.reduceAdd, List.cons_append, List.nil_append]
  refine AWp.weak (Weak.opens [false, false, false, false, false, false, true, false, false, false, false, false, false, false, false, false, false, false, false, false, false, false, false, false, false, false, false, false, false, false, false, false, false, false, false, false, false, false, false, false, false, false, false, false, false, false, false, false, false, false, false, false, false, false, false, false, false, false, false, false, false, false, false, false, false, false, false, false, false, false, false, false, false, false, false, false, false, false, false, false, false, false, false, false, false, false, false, false, false, false, false, false, false, false, false, false, false, false, false, false, false, false, false, false, false, false, false, false, false] 1 (by omega)) ?_
  simp only [openS, openV, List.length_cons, List.length_nil, List.length_append, Nat.reduceAdd, List.cons_append, List.nil_append]
  refine AWp.loopx (α := Nat) (fun v => (⟨(.c .any : AVal) :: (.c (.int .u16 w) : AVal) :: (.c (.ptr 0 0) : AVal) :: (.c .any : AVal) :: (.c (.bool false) : AVal) :: (.c (.slice (iRows (inL (pB w) v)) (.chain 1)) : AVal) :: (.c (.slice (iRows (inL (fun v => !pB w v) v)) (.chain 2)) : AVal) :: (.c (.int .i64 (sumR (fun v => if pB w v then degL v (endsL g.es) else 0) v)) : AVal) :: (.c .any : AVal) :: (.c .any : AVal) :: (.c .any : AVal) :: (.c .any : AVal) :: (.c .any : AVal) :: (.c .any : AVal) :: (.c .any : AVal) :: (.c .any : AVal) :: (.c .any : AVal) :: (.c .any : AVal) :: (.c .any : AVal) :: (.c .any : AVal) :: (.c .any : AVal) :: (.c .any : AVal) :: (.c (.int .i64 g.n) : AVal) :: (.c (.int .i64 (v : Int)) : AVal) :: (.c .any : AVal) :: (.c .any : AVal) :: (.c .any : AVal) :: (.c .any : AVal) :: (.c .any : AVal) :: (.c .any : AVal) :: (.c .any : AVal) :: (.c .any : AVal) :: (.c .any : AVal) :: (.c .any : AVal) :: (.c .any : AVal) :: (.c .any : AVal) :: (.c .any : AVal) :: (.c .any : AVal) :: (.c .any : AVal) :: (.c .any : AVal) :: (.c .any : AVal) :: (.c .any : AVal) :: (.c .any : AVal) :: (.c .any : AVal) :: (.c .any : AVal) :: (.c .any : AVal) :: (.c .any : AVal) :: (.c .any : AVal) :: (.c .any : AVal) :: (.c .any : AVal) :: (.c .any : AVal) :: (.c .any : AVal) :: (.c .any : AVal) :: (.c .any : AVal) :: (.c .any : AVal) :: (.c .any : AVal) :: (.c .any : AVal) :: (.c .any : AVal) :: (.c .any : AVal) :: (.c .any : AVal) :: (.c .any : AVal) :: (.c .any : AVal) :: (.c .any : AVal) :: (.c .any : AVal) :: (.c .any : AVal) :: (.c .any : AVal) :: (.c .any : AVal) :: (.c .any : AVal) :: (.c .any : AVal) :: (.c .any : AVal) :: (.c .any : AVal) :: (.c .any : AVal) :: (.c .any : AVal) :: (.c .any : AVal) :: (.c .any : AVal) :: (.c .any : AVal) :: (.c .any : AVal) :: (.c .any : AVal) :: (.c .any : AVal) :: (.c .any : AVal) :: (.c .any : AVal) :: (.c .any : AVal) :: (.c .any : AVal) :: (.c .any : AVal) :: (.c .any : AVal) :: (.c .any : AVal) :: (.c .any : AVal) :: (.c .any : AVal) :: (.c .any : AVal) :: (.c .any : AVal) :: (.c .any : AVal) :: (.c .any : AVal) :: (.c .any : AVal) :: (.c .any : AVal) :: (.c .any : AVal) :: (.c .any : AVal) :: (.c .any : AVal) :: (.c .any : AVal) :: (.c .any : AVal) :: (.c .any : AVal) :: (.c .any : AVal) :: (.c .any : AVal) :: (.c .any : AVal) :: (.c .any : AVal) :: (.c .any : AVal) :: (.c .any : AVal) :: (.c .any : AVal) :: (.c .any : AVal) :: (.c .any : AVal) :: [], [.box [.int .i64 g.n, .slice (eRows g.es) .none], .chain (inL (pB w) v).length 1, .chain (inL (fun v => !pB w v) v).length 1]⟩ : St)) (fun v => v ≤ n) (fun v => n - v) (0) (Weak.head (m := 3) (by omega) [false, true, true, false, true, true, true, true, false, false, false, false, false, false, false, false, false, false, false, false, false, false, true, true, false, false, false, false, false, false, false, false, false, false, false, false, false, false, false, false, false, false, false, false, false, false, false, false, false, false, false, false, false, false, false, false, false, false, false, false, false, false, false, false, false, false, false, false, false, false, false, false, false, false, false, false, false, false, false, false, false, false, false, false, false, false, false, false, false, false, false, false, false, false, false, false, false, false, false, false, false, false, false, false, false, false, false, false, false] (by first | rfl | (simp [mask]; done) | (simp [mask] <;> omega)) (by first | rfl | (simp; done) | (simp <;> omega)) (by (repeat' (first | exact valsIn_nil _ | exact blksIn_nil _ | exact cellsIn_nil _ | refine valsIn_cons ?_ ?_ | refine blksIn_cons ?_ ?_ | refine cellsIn_cons ?_ ?_ | exact True.intro | (show _ < _; omega) | exact cellsIn_map (fun _ => True.intro) | (intro c hc; cases hc; done) | (intro c hc; simp only [List.mem_cons, List.not_mem_nil, or_false] at hc; subst hc; exact True.intro)))) (by (repeat' (first | exact valsIn_nil _ | exact blksIn_nil _ | exact cellsIn_nil _ | refine valsIn_cons ?_ ?_ | refine blksIn_cons ?_ ?_ | refine cellsIn_cons ?_ ?_ | exact True.intro | (show _ < _; omega) | exact cellsIn_map (fun _ => True.intro) | (intro c hc; cases hc; done) | (intro c hc; simp only [List.mem_cons, List.not_mem_nil, or_false] at hc; subst hc; exact True.intro))))) ?_ (fun v hI => ?_)
  · exact Nat.zero_le _
  · have hvn : v ≤ n := hI
    clear hI
    by_cases hlt : v < n
    · have hltI : (v : Int) < g.n := by omega
      have hde : ACall Try.prog 34 [tG g, tint v] (.tup [tint (degL v (endsL g.es)), tint 0]) := by
        have := Degree_ok g v (by omega); rwa [at_one hR hlt, if_neg (by decide)] at this
      have hS1 : sumR (fun v => if pB w v then degL v (endsL g.es) else 0) (v + 1) = sumR (fun v => if pB w v then degL v (endsL g.es) else 0) v + (if pB w v then degL v (endsL g.es) else 0) := rfl
      have hI1 := inL_succ (pB w) v
      have hO1 := inL_succ (fun v => !pB w v) v
      have hIl := inL_len (pB w) v
      have hOl := inL_len (fun v => !pB w v) v
      have hSbv := hSb v hvn
      have hdbv := hdb v
      have hsh : ibit .and .u16 (w.fdiv (2 ^ min v 16)) 1 = bitV w v := rfl
      rw [pB_nat] at hI1 hO1 hS1
      generalize sumR (fun v => if pB w v then degL v (endsL g.es) else 0) v = S at *
      generalize inL (pB w) v = Li at *
      generalize inL (fun v => !pB w v) v = Lo at *
      generalize degL v (endsL g.es) = d at *
      generalize bitV w v = bv at *
      by_cases hbv : bv = 0
      · rw [decide_eq_true hbv] at hI1 hO1 hS1
        simp only [Bool.not_true, Bool.not_false, Bool.false_eq_true, if_false, if_true, List.append_nil, Int.add_zero] at hI1 hO1 hS1
        repeat' (first
          | (with_reducible refine AWp.seq_region (fun K hK => ?_))
          | (with_reducible refine AWp.last_region (fun K hK => ?_))
          | (with_reducible refine AWp.seq_draw (by with_unfolding_all kernel_rfl) (fun K hK => ?_))
          | (with_reducible refine AWp.last_draw (by with_unfolding_all kernel_rfl) (fun K hK => ?_))
          | ((with_reducible first | refine vcEnd ?_ | refine vcEndD ?_ | refine vcEndM ?_); refine hK _ _ ?_; clear hK; clear K)
          | ((with_reducible first | refine vcStepN (by rfl) (by with_unfolding_all rfl) ?_ | refine vcStepND (by rfl) (by with_unfolding_all rfl) ?_ | refine vcStepNM (by rfl) (by with_unfolding_all rfl) ?_); try simp only [aput, List.set_cons_succ, List.set_cons_zero, List.length_cons, List.length_nil, List.length_append, List.cons_append, List.nil_append, Nat.reduceAdd, List.append_nil])
          | ((with_reducible first | refine vcStep (by rfl) (fun K' hK' => ?_) | refine vcStepD (by rfl) (fun K' hK' => ?_) | refine vcStepM (by rfl) (fun K' hK' => ?_) | refine vcStepG (by rfl) (by with_unfolding_all rfl) (fun hguard K' hK' => ?_) (fun hguard => ?_) | refine vcStepGD (by rfl) (by with_unfolding_all rfl) (fun hguard K' hK' => ?_) (fun hguard => ?_) | refine vcStepGM (by rfl) (by with_unfolding_all rfl) (fun hguard K' hK' => ?_) (fun hguard => ?_)) <;> ((try (replace hguard := hguard; (try simp only [decide_eq_true_eq, decide_eq_false_iff_not, Bool.not_eq_true', Bool.not_eq_false', Bool.not_true, Bool.not_false, Int.not_lt, Int.not_le, reduceCtorEq, Bool.true_eq_false, Bool.false_eq_true] at hguard); (try (exfalso; (try clear hK'); (try clear hK); omega)))) <;> ((try (simp +contextual only [Nat.reduceAdd, Nat.reduceSub, Nat.reduceMul, Nat.reduceLeDiff, Nat.reduceLT, Int.reduceToNat, Int.reduceLT, Int.reduceLE, Int.reduceNeg, reduceCtorEq, Nat.reduceEqDiff, go_sem, hltI, hsh, hbv, Int.toNat_natCast, iRows_len, chunks, List.range, List.range.loop, iRows_snoc])); (repeat' (first | ((with_reducible refine hK' _ _ ?_); clear hK'; clear K'; try simp only [aput, List.set_cons_succ, List.set_cons_zero, List.length_cons, List.length_nil, List.length_append, List.cons_append, List.nil_append, Nat.reduceAdd, List.append_nil]) | (with_reducible exact iRows_k' (by assumption)) | (with_reducible refine And.intro ?_ ?_) | ((with_reducible intro hpath); try first | (exfalso; (try clear hK'); (try clear hK); omega) | (exact absurd hpath (by assumption))) | ((with_reducible first | refine gi1 ?_ | refine gi2 ?_ | refine gn1 ?_ | refine gn2 ?_ | refine gi3 ?_ | refine gn3 ?_ | refine gnot ?_); omega) | (with_reducible exact True.intro) | ((refine hK' _ _ ?_); clear hK'; clear K'; try simp only [aput, List.set_cons_succ, List.set_cons_zero, List.length_cons, List.length_nil, List.length_append, List.cons_append, List.nil_append, Nat.reduceAdd, List.append_nil]))); (try simp only [aput, List.set_cons_succ, List.set_cons_zero, List.length_cons, List.length_nil, List.length_append, List.cons_append, List.nil_append, Nat.reduceAdd, List.append_nil]))))
          | (with_reducible refine AWp.seq ?_)
          | (with_reducible refine AWp.block ?_)
          | (with_reducible refine AWp.skip ?_)
          | (with_reducible refine AWp.ret ?_)
          | (with_reducible refine AWp.exit ?_)
          | (refine AWp.cond _ rfl (fun hcond => ?_) (fun hcond => ?_) <;> first | (simp only [reduceCtorEq, Bool.true_eq_false, Bool.false_eq_true] at hcond; done) | (simp only [decide_eq_true_eq, decide_eq_false_iff_not, Bool.not_eq_true', Bool.not_eq_false', Int.not_lt, Int.not_le] at hcond; try (exfalso; omega)) | skip)
          | (with_reducible refine AThen.n ?_)
          | (with_reducible refine AThen.r ?_)
          | (with_reducible refine AThen.e ?_)
          | (with_reducible refine AInBlock.n ?_)
          | (with_reducible refine AInBlock.r ?_)
          | (with_reducible refine AInBlock.hit ?_)
          | (with_reducible refine AInBlock.miss (by with_unfolding_all decide) ?_))
        refine ⟨v + 1, Weak.head (m := 3) (by omega) [false, true, true, false, true, true, true, true, false, false, false, false, false, false, false, false, false, false, false, false, false, false, true, true, false, false, false, false, false, false, false, false, false, false, false, false, false, false, false, false, false, false, false, false, false, false, false, false, false, false, false, false, false, false, false, false, false, false, false, false, false, false, false, false, false, false, false, false, false, false, false, false, false, false, false, false, false, false, false, false, false, false, false, false, false, false, false, false, false, false, false, false, false, false, false, false, false, false, false, false, false, false, false, false, false, false, false, false, false] (by first | rfl | (simp [mask, hI1, hO1, hS1]; done) | (simp [mask, hI1, hO1, hS1] <;> simp_all <;> omega)) (by first | rfl | (simp [mask, hI1, hO1, hS1]; done) | (simp [mask, hI1, hO1, hS1] <;> simp_all <;> omega)) (by (repeat' (first | exact valsIn_nil _ | exact blksIn_nil _ | exact cellsIn_nil _ | refine valsIn_cons ?_ ?_ | refine blksIn_cons ?_ ?_ | refine cellsIn_cons ?_ ?_ | exact True.intro | (show _ < _; omega) | exact cellsIn_map (fun _ => True.intro) | (intro c hc; cases hc; done) | (intro c hc; simp only [List.mem_cons, List.not_mem_nil, or_false] at hc; subst hc; exact True.intro)))) (by (repeat' (first | exact valsIn_nil _ | exact blksIn_nil _ | exact cellsIn_nil _ | refine valsIn_cons ?_ ?_ | refine blksIn_cons ?_ ?_ | refine cellsIn_cons ?_ ?_ | exact True.intro | (show _ < _; omega) | exact cellsIn_map (fun _ => True.intro) | (intro c hc; cases hc; done) | (intro c hc; simp only [List.mem_cons, List.not_mem_nil, or_false] at hc; subst hc; exact True.intro)))), ?_, ?_⟩
        · exact hlt
        · omega
      · rw [decide_eq_false hbv] at hI1 hO1 hS1
        simp only [Bool.not_true, Bool.not_false, Bool.false_eq_true, if_false, if_true, List.append_nil, Int.add_zero] at hI1 hO1 hS1
        repeat' (first
          | (with_reducible refine AWp.seq_region (fun K hK => ?_))
          | (with_reducible refine AWp.last_region (fun K hK => ?_))
          | (with_reducible refine AWp.seq_draw (by with_unfolding_all kernel_rfl) (fun K hK => ?_))
          | (with_reducible refine AWp.last_draw (by with_unfolding_all kernel_rfl) (fun K hK => ?_))
          | ((with_reducible first | refine vcEnd ?_ | refine vcEndD ?_ | refine vcEndM ?_); refine hK _ _ ?_; clear hK; clear K)
          | ((with_reducible first | refine vcStepN (by rfl) (by with_unfolding_all rfl) ?_ | refine vcStepND (by rfl) (by with_unfolding_all rfl) ?_ | refine vcStepNM (by rfl) (by with_unfolding_all rfl) ?_); try simp only [aput, List.set_cons_succ, List.set_cons_zero, List.length_cons, List.length_nil, List.length_append, List.cons_append, List.nil_append, Nat.reduceAdd, List.append_nil])
          | ((with_reducible first | refine vcStep (by rfl) (fun K' hK' => ?_) | refine vcStepD (by rfl) (fun K' hK' => ?_) | refine vcStepM (by rfl) (fun K' hK' => ?_) | refine vcStepG (by rfl) (by with_unfolding_all rfl) (fun hguard K' hK' => ?_) (fun hguard => ?_) | refine vcStepGD (by rfl) (by with_unfolding_all rfl) (fun hguard K' hK' => ?_) (fun hguard => ?_) | refine vcStepGM (by rfl) (by with_unfolding_all rfl) (fun hguard K' hK' => ?_) (fun hguard => ?_)) <;> ((try (replace hguard := hguard; (try simp only [decide_eq_true_eq, decide_eq_false_iff_not, Bool.not_eq_true', Bool.not_eq_false', Bool.not_true, Bool.not_false, Int.not_lt, Int.not_le, reduceCtorEq, Bool.true_eq_false, Bool.false_eq_true] at hguard); (try (exfalso; (try clear hK'); (try clear hK); omega)))) <;> ((try (simp +contextual only [Nat.reduceAdd, Nat.reduceSub, Nat.reduceMul, Nat.reduceLeDiff, Nat.reduceLT, Int.reduceToNat, Int.reduceLT, Int.reduceLE, Int.reduceNeg, reduceCtorEq, Nat.reduceEqDiff, go_sem, hltI, hsh, hbv, Int.toNat_natCast, iRows_len, chunks, List.range, List.range.loop, iRows_snoc])); (repeat' (first | ((with_reducible refine hK' _ _ ?_); clear hK'; clear K'; try simp only [aput, List.set_cons_succ, List.set_cons_zero, List.length_cons, List.length_nil, List.length_append, List.cons_append, List.nil_append, Nat.reduceAdd, List.append_nil]) | ((with_reducible first | refine ⟨_, _, ACall.h (hde) (by with_unfolding_all rfl), ?_⟩ | refine ⟨_, ACall.h (hde) (by with_unfolding_all rfl), ?_⟩ | refine ⟨_, _, ACall.hb (hde) (by with_unfolding_all rfl) (by with_unfolding_all rfl), ?_⟩ | refine ⟨_, ACall.hb (hde) (by with_unfolding_all rfl) (by with_unfolding_all rfl), ?_⟩); (try simp +contextual only [Nat.reduceAdd, Nat.reduceSub, Nat.reduceMul, Nat.reduceLeDiff, Nat.reduceLT, Int.reduceToNat, Int.reduceLT, Int.reduceLE, Int.reduceNeg, reduceCtorEq, Nat.reduceEqDiff, go_sem, hltI, hsh, hbv, Int.toNat_natCast, iRows_len, chunks, List.range, List.range.loop, iRows_snoc])) | (with_reducible exact iRows_k' (by assumption)) | (with_reducible refine And.intro ?_ ?_) | ((with_reducible intro hpath); try first | (exfalso; (try clear hK'); (try clear hK); omega) | (exact absurd hpath (by assumption))) | ((with_reducible first | refine gi1 ?_ | refine gi2 ?_ | refine gn1 ?_ | refine gn2 ?_ | refine gi3 ?_ | refine gn3 ?_ | refine gnot ?_); omega) | (with_reducible exact True.intro) | ((refine hK' _ _ ?_); clear hK'; clear K'; try simp only [aput, List.set_cons_succ, List.set_cons_zero, List.length_cons, List.length_nil, List.length_append, List.cons_append, List.nil_append, Nat.reduceAdd, List.append_nil]))); (try simp only [aput, List.set_cons_succ, List.set_cons_zero, List.length_cons, List.length_nil, List.length_append, List.cons_append, List.nil_append, Nat.reduceAdd, List.append_nil]))))
          | (with_reducible refine AWp.seq ?_)
          | (with_reducible refine AWp.block ?_)
          | (with_reducible refine AWp.skip ?_)
          | (with_reducible refine AWp.ret ?_)
          | (with_reducible refine AWp.exit ?_)
          | (refine AWp.cond _ rfl (fun hcond => ?_) (fun hcond => ?_) <;> first | (simp only [reduceCtorEq, Bool.true_eq_false, Bool.false_eq_true] at hcond; done) | (simp only [decide_eq_true_eq, decide_eq_false_iff_not, Bool.not_eq_true', Bool.not_eq_false', Int.not_lt, Int.not_le] at hcond; try (exfalso; omega)) | skip)
          | (with_reducible refine AThen.n ?_)
          | (with_reducible refine AThen.r ?_)
          | (with_reducible refine AThen.e ?_)
          | (with_reducible refine AInBlock.n ?_)
          | (with_reducible refine AInBlock.r ?_)
          | (with_reducible refine AInBlock.hit ?_)
          | (with_reducible refine AInBlock.miss (by with_unfolding_all decide) ?_))
        refine ⟨v + 1, Weak.head (m := 3) (by omega) [false, true, true, false, true, true, true, true, false, false, false, false, false, false, false, false, false, false, false, false, false, false, true, true, false, false, false, false, false, false, false, false, false, false, false, false, false, false, false, false, false, false, false, false, false, false, false, false, false, false, false, false, false, false, false, false, false, false, false, false, false, false, false, false, false, false, false, false, false, false, false, false, false, false, false, false, false, false, false, false, false, false, false, false, false, false, false, false, false, false, false, false, false, false, false, false, false, false, false, false, false, false, false, false, false, false, false, false, false] (by first | rfl | (simp [mask, hI1, hO1, hS1]; done) | (simp [mask, hI1, hO1, hS1] <;> simp_all <;> omega)) (by first | rfl | (simp [mask, hI1, hO1, hS1]; done) | (simp [mask, hI1, hO1, hS1] <;> simp_all <;> omega)) (by (repeat' (first | exact valsIn_nil _ | exact blksIn_nil _ | exact cellsIn_nil _ | refine valsIn_cons ?_ ?_ | refine blksIn_cons ?_ ?_ | refine cellsIn_cons ?_ ?_ | exact True.intro | (show _ < _; omega) | exact cellsIn_map (fun _ => True.intro) | (intro c hc; cases hc; done) | (intro c hc; simp only [List.mem_cons, List.not_mem_nil, or_false] at hc; subst hc; exact True.intro)))) (by (repeat' (first | exact valsIn_nil _ | exact blksIn_nil _ | exact cellsIn_nil _ | refine valsIn_cons ?_ ?_ | refine blksIn_cons ?_ ?_ | refine cellsIn_cons ?_ ?_ | exact True.intro | (show _ < _; omega) | exact cellsIn_map (fun _ => True.intro) | (intro c hc; cases hc; done) | (intro c hc; simp only [List.mem_cons, List.not_mem_nil, or_false] at hc; subst hc; exact True.intro)))), ?_, ?_⟩
        · exact hlt
        · omega
    · have ev : v = n := by omega
      subst ev
      have hnl : ¬ ((v : Int) < g.n) := by omega
      obtain ⟨d1, d2, d3, d4, d5⟩ := divides hc hn (pB w)
      have hIl := inL_len (pB w) v
      have hOl := inL_len (fun v => !pB w v) v
      have hSbv := hSb v (Nat.le_refl _)
      have hC1 : ACall Try.prog 27 [tG g, tints (inL (pB w) v)] (.tup [tints (cutL (inL (pB w) v) (endsL g.es)), tint 0]) := by
        have := Cut_ok g (inL (pB w) v) (by omega) (by omega); rwa [d1, if_neg (by decide)] at this
      have hC2 : ACall Try.prog 27 [tG g, tints (inL (fun v => !pB w v) v)] (.tup [tints (cutL (inL (pB w) v) (endsL g.es)), tint 0]) := by
        have := Cut_ok g (inL (fun v => !pB w v) v) (by omega) (by omega); rwa [d2, if_neg (by decide), ← d3] at this
      have hcl := cutL_len (inL (pB w) v) (endsL g.es)
      have hEq : ACall Try.prog 30 [tints (cutL (inL (pB w) v) (endsL g.es)), tints (cutL (inL (pB w) v) (endsL g.es))] (tbool true) := by
        have := Equal_ok (cutL (inL (pB w) v) (endsL g.es)) (cutL (inL (pB w) v) (endsL g.es)) (by omega) (by omega); rwa [decide_eq_true rfl] at this
      by_cases hnil : inL (pB w) v = []
      · have hz := d4 hnil
        rw [hz] at hC1 hC2 hEq
        have hlen0 : (inL (pB w) v).length = 0 := by rw [hnil]; rfl
        repeat' (first
          | (with_reducible refine AWp.seq_region (fun K hK => ?_))
          | (with_reducible refine AWp.last_region (fun K hK => ?_))
          | (with_reducible refine AWp.seq_draw (by with_unfolding_all kernel_rfl) (fun K hK => ?_))
          | (with_reducible refine AWp.last_draw (by with_unfolding_all kernel_rfl) (fun K hK => ?_))
          | ((with_reducible first | refine vcEnd ?_ | refine vcEndD ?_ | refine vcEndM ?_); refine hK _ _ ?_; clear hK; clear K)
          | ((with_reducible first | refine vcStepN (by rfl) (by with_unfolding_all rfl) ?_ | refine vcStepND (by rfl) (by with_unfolding_all rfl) ?_ | refine vcStepNM (by rfl) (by with_unfolding_all rfl) ?_); try simp only [aput, List.set_cons_succ, List.set_cons_zero, List.length_cons, List.length_nil, List.length_append, List.cons_append, List.nil_append, Nat.reduceAdd, List.append_nil])
          | ((with_reducible first | refine vcStep (by rfl) (fun K' hK' => ?_) | refine vcStepD (by rfl) (fun K' hK' => ?_) | refine vcStepM (by rfl) (fun K' hK' => ?_) | refine vcStepG (by rfl) (by with_unfolding_all rfl) (fun hguard K' hK' => ?_) (fun hguard => ?_) | refine vcStepGD (by rfl) (by with_unfolding_all rfl) (fun hguard K' hK' => ?_) (fun hguard => ?_) | refine vcStepGM (by rfl) (by with_unfolding_all rfl) (fun hguard K' hK' => ?_) (fun hguard => ?_)) <;> ((try (replace hguard := hguard; (try simp only [decide_eq_true_eq, decide_eq_false_iff_not, Bool.not_eq_true', Bool.not_eq_false', Bool.not_true, Bool.not_false, Int.not_lt, Int.not_le, reduceCtorEq, Bool.true_eq_false, Bool.false_eq_true] at hguard); (try (exfalso; (try clear hK'); (try clear hK); omega)))) <;> ((try (simp +contextual only [Nat.reduceAdd, Nat.reduceSub, Nat.reduceMul, Nat.reduceLeDiff, Nat.reduceLT, Int.reduceToNat, Int.reduceLT, Int.reduceLE, Int.reduceNeg, reduceCtorEq, Nat.reduceEqDiff, go_sem, hnl, iRows_len, hlen0])); (repeat' (first | ((with_reducible refine hK' _ _ ?_); clear hK'; clear K'; try simp only [aput, List.set_cons_succ, List.set_cons_zero, List.length_cons, List.length_nil, List.length_append, List.cons_append, List.nil_append, Nat.reduceAdd, List.append_nil]) | ((with_reducible first | refine ⟨_, _, ACall.h (hC1) (by with_unfolding_all rfl), ?_⟩ | refine ⟨_, ACall.h (hC1) (by with_unfolding_all rfl), ?_⟩ | refine ⟨_, _, ACall.hb (hC1) (by with_unfolding_all rfl) (by with_unfolding_all rfl), ?_⟩ | refine ⟨_, ACall.hb (hC1) (by with_unfolding_all rfl) (by with_unfolding_all rfl), ?_⟩ | refine ⟨_, _, ACall.h (hC2) (by with_unfolding_all rfl), ?_⟩ | refine ⟨_, ACall.h (hC2) (by with_unfolding_all rfl), ?_⟩ | refine ⟨_, _, ACall.hb (hC2) (by with_unfolding_all rfl) (by with_unfolding_all rfl), ?_⟩ | refine ⟨_, ACall.hb (hC2) (by with_unfolding_all rfl) (by with_unfolding_all rfl), ?_⟩ | refine ⟨_, _, ACall.h (hEq) (by with_unfolding_all rfl), ?_⟩ | refine ⟨_, ACall.h (hEq) (by with_unfolding_all rfl), ?_⟩ | refine ⟨_, _, ACall.hb (hEq) (by with_unfolding_all rfl) (by with_unfolding_all rfl), ?_⟩ | refine ⟨_, ACall.hb (hEq) (by with_unfolding_all rfl) (by with_unfolding_all rfl), ?_⟩ | refine ⟨_, _, ACall.h (awake_ok) (by with_unfolding_all rfl), ?_⟩ | refine ⟨_, ACall.h (awake_ok) (by with_unfolding_all rfl), ?_⟩ | refine ⟨_, _, ACall.hb (awake_ok) (by with_unfolding_all rfl) (by with_unfolding_all rfl), ?_⟩ | refine ⟨_, ACall.hb (awake_ok) (by with_unfolding_all rfl) (by with_unfolding_all rfl), ?_⟩); (try simp +contextual only [Nat.reduceAdd, Nat.reduceSub, Nat.reduceMul, Nat.reduceLeDiff, Nat.reduceLT, Int.reduceToNat, Int.reduceLT, Int.reduceLE, Int.reduceNeg, reduceCtorEq, Nat.reduceEqDiff, go_sem, hnl, iRows_len, hlen0])) | (with_reducible refine And.intro ?_ ?_) | ((with_reducible intro hpath); try first | (exfalso; (try clear hK'); (try clear hK); omega) | (exact absurd hpath (by assumption))) | ((with_reducible first | refine gi1 ?_ | refine gi2 ?_ | refine gn1 ?_ | refine gn2 ?_ | refine gi3 ?_ | refine gn3 ?_ | refine gnot ?_); omega) | (with_reducible exact True.intro) | ((refine hK' _ _ ?_); clear hK'; clear K'; try simp only [aput, List.set_cons_succ, List.set_cons_zero, List.length_cons, List.length_nil, List.length_append, List.cons_append, List.nil_append, Nat.reduceAdd, List.append_nil]))); (try simp only [aput, List.set_cons_succ, List.set_cons_zero, List.length_cons, List.length_nil, List.length_append, List.cons_append, List.nil_append, Nat.reduceAdd, List.append_nil]))))
          | (with_reducible refine AWp.seq ?_)
          | (with_reducible refine AWp.block ?_)
          | (with_reducible refine AWp.skip ?_)
          | (with_reducible refine AWp.ret ?_)
          | (with_reducible refine AWp.exit ?_)
          | (refine AWp.cond _ rfl (fun hcond => ?_) (fun hcond => ?_) <;> first | (simp only [reduceCtorEq, Bool.true_eq_false, Bool.false_eq_true] at hcond; done) | (simp only [decide_eq_true_eq, decide_eq_false_iff_not, Bool.not_eq_true', Bool.not_eq_false', Int.not_lt, Int.not_le] at hcond; try (exfalso; omega)) | skip)
          | (with_reducible refine AThen.n ?_)
          | (with_reducible refine AThen.r ?_)
          | (with_reducible refine AThen.e ?_)
          | (with_reducible refine AInBlock.n ?_)
          | (with_reducible refine AInBlock.r ?_)
          | (with_reducible refine AInBlock.hit ?_)
          | (with_reducible refine AInBlock.miss (by with_unfolding_all decide) ?_))
        simp [Rets, aret, Blk.cells, ty, Try.results6, ares, toT1, toT, borrow, borrow0, capCell, toTree0, tbool]
      · obtain ⟨i1, i2, i3, i4⟩ := d5 hnil
        have hlen0 : ¬ (inL (pB w) v).length = 0 := by simpa using hnil
        have hI : ACall Try.prog 28 [tG g, tints (inL (pB w) v)] (.tup [tG (indG g (inL (pB w) v)), tint 0]) := by
          have := Induced_ok g (inL (pB w) v) (by omega) (by omega); rwa [i1] at this
        have hZ : ACall Try.prog 15 [tG (indG g (inL (pB w) v))] (.tup [tint (endsL (indG g (inL (pB w) v)).es).length, tint 0]) := by
          have := Size_ok (indG g (inL (pB w) v)) (by omega); rwa [i2, if_neg (by decide)] at this
        generalize indG g (inL (pB w) v) = gi at *
        generalize cutL (inL (pB w) v) (endsL g.es) = cl at *
        generalize sumR (fun v => if pB w v then degL v (endsL g.es) else 0) v = S at *
        repeat' (first
          | (with_reducible refine AWp.seq_region (fun K hK => ?_))
          | (with_reducible refine AWp.last_region (fun K hK => ?_))
          | (with_reducible refine AWp.seq_draw (by with_unfolding_all kernel_rfl) (fun K hK => ?_))
          | (with_reducible refine AWp.last_draw (by with_unfolding_all kernel_rfl) (fun K hK => ?_))
          | ((with_reducible first | refine vcEnd ?_ | refine vcEndD ?_ | refine vcEndM ?_); refine hK _ _ ?_; clear hK; clear K)
          | ((with_reducible first | refine vcStepN (by rfl) (by with_unfolding_all rfl) ?_ | refine vcStepND (by rfl) (by with_unfolding_all rfl) ?_ | refine vcStepNM (by rfl) (by with_unfolding_all rfl) ?_); try simp only [aput, List.set_cons_succ, List.set_cons_zero, List.length_cons, List.length_nil, List.length_append, List.cons_append, List.nil_append, Nat.reduceAdd, List.append_nil])
          | ((with_reducible first | refine vcStep (by rfl) (fun K' hK' => ?_) | refine vcStepD (by rfl) (fun K' hK' => ?_) | refine vcStepM (by rfl) (fun K' hK' => ?_) | refine vcStepG (by rfl) (by with_unfolding_all rfl) (fun hguard K' hK' => ?_) (fun hguard => ?_) | refine vcStepGD (by rfl) (by with_unfolding_all rfl) (fun hguard K' hK' => ?_) (fun hguard => ?_) | refine vcStepGM (by rfl) (by with_unfolding_all rfl) (fun hguard K' hK' => ?_) (fun hguard => ?_)) <;> ((try (replace hguard := hguard; (try simp only [decide_eq_true_eq, decide_eq_false_iff_not, Bool.not_eq_true', Bool.not_eq_false', Bool.not_true, Bool.not_false, Int.not_lt, Int.not_le, reduceCtorEq, Bool.true_eq_false, Bool.false_eq_true] at hguard); (try (exfalso; (try clear hK'); (try clear hK); omega)))) <;> ((try (simp +contextual only [Nat.reduceAdd, Nat.reduceSub, Nat.reduceMul, Nat.reduceLeDiff, Nat.reduceLT, Int.reduceToNat, Int.reduceLT, Int.reduceLE, Int.reduceNeg, reduceCtorEq, Nat.reduceEqDiff, go_sem, hnl, iRows_len])); (repeat' (first | ((with_reducible refine hK' _ _ ?_); clear hK'; clear K'; try simp only [aput, List.set_cons_succ, List.set_cons_zero, List.length_cons, List.length_nil, List.length_append, List.cons_append, List.nil_append, Nat.reduceAdd, List.append_nil]) | ((with_reducible first | refine ⟨_, _, ACall.h (hC1) (by with_unfolding_all rfl), ?_⟩ | refine ⟨_, ACall.h (hC1) (by with_unfolding_all rfl), ?_⟩ | refine ⟨_, _, ACall.hb (hC1) (by with_unfolding_all rfl) (by with_unfolding_all rfl), ?_⟩ | refine ⟨_, ACall.hb (hC1) (by with_unfolding_all rfl) (by with_unfolding_all rfl), ?_⟩ | refine ⟨_, _, ACall.h (hC2) (by with_unfolding_all rfl), ?_⟩ | refine ⟨_, ACall.h (hC2) (by with_unfolding_all rfl), ?_⟩ | refine ⟨_, _, ACall.hb (hC2) (by with_unfolding_all rfl) (by with_unfolding_all rfl), ?_⟩ | refine ⟨_, ACall.hb (hC2) (by with_unfolding_all rfl) (by with_unfolding_all rfl), ?_⟩ | refine ⟨_, _, ACall.h (hEq) (by with_unfolding_all rfl), ?_⟩ | refine ⟨_, ACall.h (hEq) (by with_unfolding_all rfl), ?_⟩ | refine ⟨_, _, ACall.hb (hEq) (by with_unfolding_all rfl) (by with_unfolding_all rfl), ?_⟩ | refine ⟨_, ACall.hb (hEq) (by with_unfolding_all rfl) (by with_unfolding_all rfl), ?_⟩ | refine ⟨_, _, ACall.h (hI) (by with_unfolding_all rfl), ?_⟩ | refine ⟨_, ACall.h (hI) (by with_unfolding_all rfl), ?_⟩ | refine ⟨_, _, ACall.hb (hI) (by with_unfolding_all rfl) (by with_unfolding_all rfl), ?_⟩ | refine ⟨_, ACall.hb (hI) (by with_unfolding_all rfl) (by with_unfolding_all rfl), ?_⟩ | refine ⟨_, _, ACall.h (hZ) (by with_unfolding_all rfl), ?_⟩ | refine ⟨_, ACall.h (hZ) (by with_unfolding_all rfl), ?_⟩ | refine ⟨_, _, ACall.hb (hZ) (by with_unfolding_all rfl) (by with_unfolding_all rfl), ?_⟩ | refine ⟨_, ACall.hb (hZ) (by with_unfolding_all rfl) (by with_unfolding_all rfl), ?_⟩ | refine ⟨_, _, ACall.h (awake_ok) (by with_unfolding_all rfl), ?_⟩ | refine ⟨_, ACall.h (awake_ok) (by with_unfolding_all rfl), ?_⟩ | refine ⟨_, _, ACall.hb (awake_ok) (by with_unfolding_all rfl) (by with_unfolding_all rfl), ?_⟩ | refine ⟨_, ACall.hb (awake_ok) (by with_unfolding_all rfl) (by with_unfolding_all rfl), ?_⟩); (try simp +contextual only [Nat.reduceAdd, Nat.reduceSub, Nat.reduceMul, Nat.reduceLeDiff, Nat.reduceLT, Int.reduceToNat, Int.reduceLT, Int.reduceLE, Int.reduceNeg, reduceCtorEq, Nat.reduceEqDiff, go_sem, hnl, iRows_len])) | (with_reducible refine And.intro ?_ ?_) | ((with_reducible intro hpath); try first | (exfalso; (try clear hK'); (try clear hK); omega) | (exact absurd hpath (by assumption))) | ((with_reducible first | refine gi1 ?_ | refine gi2 ?_ | refine gn1 ?_ | refine gn2 ?_ | refine gi3 ?_ | refine gn3 ?_ | refine gnot ?_); omega) | (with_reducible exact True.intro) | ((refine hK' _ _ ?_); clear hK'; clear K'; try simp only [aput, List.set_cons_succ, List.set_cons_zero, List.length_cons, List.length_nil, List.length_append, List.cons_append, List.nil_append, Nat.reduceAdd, List.append_nil]))); (try simp only [aput, List.set_cons_succ, List.set_cons_zero, List.length_cons, List.length_nil, List.length_append, List.cons_append, List.nil_append, Nat.reduceAdd, List.append_nil]))))
          | (with_reducible refine AWp.seq ?_)
          | (with_reducible refine AWp.block ?_)
          | (with_reducible refine AWp.skip ?_)
          | (with_reducible refine AWp.ret ?_)
          | (with_reducible refine AWp.exit ?_)
          | (refine AWp.cond _ rfl (fun hcond => ?_) (fun hcond => ?_) <;> first | (simp only [reduceCtorEq, Bool.true_eq_false, Bool.false_eq_true] at hcond; done) | (simp only [decide_eq_true_eq, decide_eq_false_iff_not, Bool.not_eq_true', Bool.not_eq_false', Int.not_lt, Int.not_le] at hcond; try (exfalso; omega)) | skip)
          | (with_reducible refine AThen.n ?_)
          | (with_reducible refine AThen.r ?_)
          | (with_reducible refine AThen.e ?_)
          | (with_reducible refine AInBlock.n ?_)
          | (with_reducible refine AInBlock.r ?_)
          | (with_reducible refine AInBlock.hit ?_)
          | (with_reducible refine AInBlock.miss (by with_unfolding_all decide) ?_))
        simp [Rets, aret, Blk.cells, ty, Try.results6, ares, toT1, toT, borrow, borrow0, capCell, toTree0, tbool]
end Go.Proofs.Ytbdpkgckdkpepaa
