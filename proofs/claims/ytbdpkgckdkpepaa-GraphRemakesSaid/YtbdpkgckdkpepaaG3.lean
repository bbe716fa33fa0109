/- A part of the proof: contracts of functions of the program, or plain lemmas. -/
import Derived.Test.YtbdpkgckdkpepaaG2
set_option linter.all false
namespace Go.Proofs.Ytbdpkgckdkpepaa
open Go.Sp
set_option linter.unusedSimpArgs false
set_option linter.unusedVariables false
set_option maxHeartbeats 4000000
set_option maxRecDepth 100000


theorem Vertex_ok (g : G) (v : Int) : ACall Try.prog 39 [tG g, tint v] (tbool (decide (0 ≤ v ∧ v < g.n))) := by
  refine ACall.of_body Try.func39 rfl (by kernel_rfl) ?_
  simp only [entry, Try.ntmps39, ofT, ofT1, ofTree, List.map_cons, List.map_nil, List.length_cons, List.length_nil, Nat.reduceAdd, Nat.reduceSub, List.replicate_succ, List.replicate_zero, List.cons_append, List.nil_append, tG, tint]
  repeat' (first
    | (with_reducible refine AWp.seq_region (fun K hK => ?_))
    | (with_reducible refine AWp.last_region (fun K hK => ?_))
    | (with_reducible refine AWp.seq_draw (by with_unfolding_all kernel_rfl) (fun K hK => ?_))
    | (with_reducible refine AWp.last_draw (by with_unfolding_all kernel_rfl) (fun K hK => ?_))
    | ((with_reducible first | refine vcEnd ?_ | refine vcEndD ?_ | refine vcEndM ?_); refine hK _ _ ?_; clear hK; clear K)
    | ((with_reducible first | refine vcStepN (by rfl) (by with_unfolding_all rfl) ?_ | refine vcStepND (by rfl) (by with_unfolding_all rfl) ?_ | refine vcStepNM (by rfl) (by with_unfolding_all rfl) ?_); try simp only [aput, List.set_cons_succ, List.set_cons_zero, List.length_cons, List.length_nil, List.length_append, List.cons_append, List.nil_append, Nat.reduceAdd, List.append_nil])
    | ((with_reducible first | refine vcStep (by rfl) (fun K' hK' => ?_) | refine vcStepD (by rfl) (fun K' hK' => ?_) | refine vcStepM (by rfl) (fun K' hK' => ?_) | refine vcStepG (by rfl) (by with_unfolding_all rfl) (fun hguard K' hK' => ?_) (fun hguard => ?_) | refine vcStepGD (by rfl) (by with_unfolding_all rfl) (fun hguard K' hK' => ?_) (fun hguard => ?_) | refine vcStepGM (by rfl) (by with_unfolding_all rfl) (fun hguard K' hK' => ?_) (fun hguard => ?_)) <;> ((try (replace hguard := hguard; (try simp only [decide_eq_true_eq, decide_eq_false_iff_not, Bool.not_eq_true', Bool.not_eq_false', Bool.not_true, Bool.not_false, Int.not_lt, Int.not_le, reduceCtorEq, Bool.true_eq_false, Bool.false_eq_true] at hguard); (try (exfalso; (try clear hK'); (try clear hK); omega)))) <;> ((try (simp +contextual only [go_sem])); (repeat' (first | ((with_reducible refine hK' _ _ ?_); clear hK'; clear K') | (with_reducible refine And.intro ?_ ?_) | ((with_reducible intro hpath); try first | (exfalso; (try clear hK'); (try clear hK); omega) | (exact absurd hpath (by assumption))) | ((with_reducible first | refine gi1 ?_ | refine gi2 ?_ | refine gn1 ?_ | refine gn2 ?_ | refine gi3 ?_ | refine gn3 ?_ | refine gnot ?_); omega) | (with_reducible exact True.intro) | ((refine hK' _ _ ?_); clear hK'; clear K'))); (try simp only [aput, List.set_cons_succ, List.set_cons_zero, List.length_cons, List.length_nil, List.length_append, List.cons_append, List.nil_append, Nat.reduceAdd, List.append_nil]))))
    | (with_reducible refine AWp.seq ?_)
    | (with_reducible refine AWp.block ?_)
    | (with_reducible refine AWp.skip ?_)
    | (with_reducible refine AWp.ret ?_)
    | (with_reducible refine AWp.exit ?_)
    | (refine AWp.cond _ rfl (fun hcond => ?_) (fun hcond => ?_) <;> first | (simp only [reduceCtorEq, Bool.true_eq_false, Bool.false_eq_true] at hcond; done) | (simp only [decide_eq_true_eq, decide_eq_false_iff_not, Bool.not_eq_true', Bool.not_eq_false', Int.not_lt, Int.not_le] at hcond; try (exfalso; omega)) | skip)
    | (with_reducible refine AThen.n ?_)
    | (with_reducible refine AThen.r ?_)
    | (with_reducible refine AThen.e ?_)
    | (with_reducible refine AInBlock.n ?_)
    | (with_reducible refine AInBlock.r ?_)
    | (with_reducible refine AInBlock.hit ?_)
    | (with_reducible refine AInBlock.miss (by with_unfolding_all decide) ?_))
  all_goals
    simp [Rets, aret, Blk.cells, ty, Try.results39, ares, toT1, toT, borrow, borrow0, capCell, toTree0, tbool]
  all_goals omega
def edgeE (n : Int) (es : List E) (i : Nat) : Int :=
  match es[i]? with
  | none => 0
  | some x =>
    if ¬ (0 ≤ x.a ∧ x.a < n) ∨ ¬ (0 ≤ x.b ∧ x.b < n) ∨ x.m < 1 ∨ 50 < x.m then 2
    else if x.b < x.a then 9
    else match i with
      | 0 => 0
      | j + 1 => match es[j]? with
        | none => 0
        | some y => if x.a < y.a ∨ (x.a = y.a ∧ x.b ≤ y.b) then 9 else 0
theorem edge_ok (g : G) (i : Nat) (hi : i < g.es.length) (hl : g.es.length < 2 ^ 40) : ACall Try.prog 52 [tG g, tint i] (tint (edgeE g.n g.es i)) := by
  have e1 : g.es[i]? = some g.es[i] := List.getElem?_eq_getElem hi
  have e2 := eRows_get e1
  cases i with
  | zero =>
    refine ACall.of_body Try.func52 rfl (by kernel_rfl) ?_
    simp only [entry, Try.ntmps52, ofT, ofT1, ofTree, List.map_cons, List.map_nil, List.length_cons, List.length_nil, Nat.reduceAdd, Nat.reduceSub, List.replicate_succ, List.replicate_zero, List.cons_append, List.nil_append, tG, tint]
    repeat' (first
      | (with_reducible refine AWp.seq_region (fun K hK => ?_))
      | (with_reducible refine AWp.last_region (fun K hK => ?_))
      | (with_reducible refine AWp.seq_draw (by with_unfolding_all kernel_rfl) (fun K hK => ?_))
      | (with_reducible refine AWp.last_draw (by with_unfolding_all kernel_rfl) (fun K hK => ?_))
      | ((with_reducible first | refine vcEnd ?_ | refine vcEndD ?_ | refine vcEndM ?_); refine hK _ _ ?_; clear hK; clear K)
      | ((with_reducible first | refine vcStepN (by rfl) (by with_unfolding_all rfl) ?_ | refine vcStepND (by rfl) (by with_unfolding_all rfl) ?_ | refine vcStepNM (by rfl) (by with_unfolding_all rfl) ?_); try simp only [aput, List.set_cons_succ, List.set_cons_zero, List.length_cons, List.length_nil, List.length_append, List.cons_append, List.nil_append, Nat.reduceAdd, List.append_nil])
      | ((with_reducible first | refine vcStep (by rfl) (fun K' hK' => ?_) | refine vcStepD (by rfl) (fun K' hK' => ?_) | refine vcStepM (by rfl) (fun K' hK' => ?_) | refine vcStepG (by rfl) (by with_unfolding_all rfl) (fun hguard K' hK' => ?_) (fun hguard => ?_) | refine vcStepGD (by rfl) (by with_unfolding_all rfl) (fun hguard K' hK' => ?_) (fun hguard => ?_) | refine vcStepGM (by rfl) (by with_unfolding_all rfl) (fun hguard K' hK' => ?_) (fun hguard => ?_)) <;> ((try (replace hguard := hguard; (try simp only [decide_eq_true_eq, decide_eq_false_iff_not, Bool.not_eq_true', Bool.not_eq_false', Bool.not_true, Bool.not_false, Int.not_lt, Int.not_le, reduceCtorEq, Bool.true_eq_false, Bool.false_eq_true] at hguard); (try (exfalso; (try clear hK'); (try clear hK); omega)))) <;> ((try (simp +contextual only [go_sem, e2, Int.toNat_natCast, Int.toNat_zero, Int.natCast_zero])); (repeat' (first | ((with_reducible refine hK' _ _ ?_); clear hK'; clear K') | ((with_reducible first | refine ⟨_, _, ACall.h (Vertex_ok g _) (by with_unfolding_all rfl), ?_⟩ | refine ⟨_, ACall.h (Vertex_ok g _) (by with_unfolding_all rfl), ?_⟩ | refine ⟨_, _, ACall.hb (Vertex_ok g _) (by with_unfolding_all rfl) (by with_unfolding_all rfl), ?_⟩ | refine ⟨_, ACall.hb (Vertex_ok g _) (by with_unfolding_all rfl) (by with_unfolding_all rfl), ?_⟩); (try simp +contextual only [go_sem, e2, Int.toNat_natCast, Int.toNat_zero, Int.natCast_zero])) | (with_reducible refine And.intro ?_ ?_) | ((with_reducible intro hpath); try first | (exfalso; (try clear hK'); (try clear hK); omega) | (exact absurd hpath (by assumption))) | ((with_reducible first | refine gi1 ?_ | refine gi2 ?_ | refine gn1 ?_ | refine gn2 ?_ | refine gi3 ?_ | refine gn3 ?_ | refine gnot ?_); omega) | (with_reducible exact True.intro) | ((refine hK' _ _ ?_); clear hK'; clear K'))); (try simp only [aput, List.set_cons_succ, List.set_cons_zero, List.length_cons, List.length_nil, List.length_append, List.cons_append, List.nil_append, Nat.reduceAdd, List.append_nil]))))
      | (with_reducible refine AWp.seq ?_)
      | (with_reducible refine AWp.block ?_)
      | (with_reducible refine AWp.skip ?_)
      | (with_reducible refine AWp.ret ?_)
      | (with_reducible refine AWp.exit ?_)
      | (refine AWp.cond _ rfl (fun hcond => ?_) (fun hcond => ?_) <;> first | (simp only [reduceCtorEq, Bool.true_eq_false, Bool.false_eq_true] at hcond; done) | (simp only [decide_eq_true_eq, decide_eq_false_iff_not, Bool.not_eq_true', Bool.not_eq_false', Int.not_lt, Int.not_le] at hcond; try (exfalso; omega)) | skip)
      | (with_reducible refine AThen.n ?_)
      | (with_reducible refine AThen.r ?_)
      | (with_reducible refine AThen.e ?_)
      | (with_reducible refine AInBlock.n ?_)
      | (with_reducible refine AInBlock.r ?_)
      | (with_reducible refine AInBlock.hit ?_)
      | (with_reducible refine AInBlock.miss (by with_unfolding_all decide) ?_))
    all_goals
      simp [Rets, aret, Blk.cells, ty, Try.results52, ares, toT1, toT, borrow, borrow0, capCell, toTree0, tint, edgeE, e1]
    all_goals omega
  | succ j =>
    have hj : j < g.es.length := by omega
    have f1 : g.es[j]? = some g.es[j] := List.getElem?_eq_getElem hj
    have f2 := eRows_get f1
    have e4 : ((j + 1 : Nat) : Int) - 1 = j := by omega
    have e5 : ((j + 1 : Nat) : Int).toNat = j + 1 := by omega
    have e6 : ((j : Nat) : Int).toNat = j := by omega
    refine ACall.of_body Try.func52 rfl (by kernel_rfl) ?_
    simp only [entry, Try.ntmps52, ofT, ofT1, ofTree, List.map_cons, List.map_nil, List.length_cons, List.length_nil, Nat.reduceAdd, Nat.reduceSub, List.replicate_succ, List.replicate_zero, List.cons_append, List.nil_append, tG, tint]
    repeat' (first
      | (with_reducible refine AWp.seq_region (fun K hK => ?_))
      | (with_reducible refine AWp.last_region (fun K hK => ?_))
      | (with_reducible refine AWp.seq_draw (by with_unfolding_all kernel_rfl) (fun K hK => ?_))
      | (with_reducible refine AWp.last_draw (by with_unfolding_all kernel_rfl) (fun K hK => ?_))
      | ((with_reducible first | refine vcEnd ?_ | refine vcEndD ?_ | refine vcEndM ?_); refine hK _ _ ?_; clear hK; clear K)
      | ((with_reducible first | refine vcStepN (by rfl) (by with_unfolding_all rfl) ?_ | refine vcStepND (by rfl) (by with_unfolding_all rfl) ?_ | refine vcStepNM (by rfl) (by with_unfolding_all rfl) ?_); try simp only [aput, List.set_cons_succ, List.set_cons_zero, List.length_cons, List.length_nil, List.length_append, List.cons_append, List.nil_append, Nat.reduceAdd, List.append_nil])
      | ((with_reducible first | refine vcStep (by rfl) (fun K' hK' => ?_) | refine vcStepD (by rfl) (fun K' hK' => ?_) | refine vcStepM (by rfl) (fun K' hK' => ?_) | refine vcStepG (by rfl) (by with_unfolding_all rfl) (fun hguard K' hK' => ?_) (fun hguard => ?_) | refine vcStepGD (by rfl) (by with_unfolding_all rfl) (fun hguard K' hK' => ?_) (fun hguard => ?_) | refine vcStepGM (by rfl) (by with_unfolding_all rfl) (fun hguard K' hK' => ?_) (fun hguard => ?_)) <;> ((try (replace hguard := hguard; (try simp only [decide_eq_true_eq, decide_eq_false_iff_not, Bool.not_eq_true', Bool.not_eq_false', Bool.not_true, Bool.not_false, Int.not_lt, Int.not_le, reduceCtorEq, Bool.true_eq_false, Bool.false_eq_true] at hguard); (try (exfalso; (try clear hK'); (try clear hK); omega)))) <;> ((try (simp +contextual only [go_sem, e2, e4, e5, e6, f2])); (repeat' (first | ((with_reducible refine hK' _ _ ?_); clear hK'; clear K') | ((with_reducible first | refine ⟨_, _, ACall.h (Vertex_ok g _) (by with_unfolding_all rfl), ?_⟩ | refine ⟨_, ACall.h (Vertex_ok g _) (by with_unfolding_all rfl), ?_⟩ | refine ⟨_, _, ACall.hb (Vertex_ok g _) (by with_unfolding_all rfl) (by with_unfolding_all rfl), ?_⟩ | refine ⟨_, ACall.hb (Vertex_ok g _) (by with_unfolding_all rfl) (by with_unfolding_all rfl), ?_⟩); (try simp +contextual only [go_sem, e2, e4, e5, e6, f2])) | (with_reducible refine And.intro ?_ ?_) | ((with_reducible intro hpath); try first | (exfalso; (try clear hK'); (try clear hK); omega) | (exact absurd hpath (by assumption))) | ((with_reducible first | refine gi1 ?_ | refine gi2 ?_ | refine gn1 ?_ | refine gn2 ?_ | refine gi3 ?_ | refine gn3 ?_ | refine gnot ?_); omega) | (with_reducible exact True.intro) | ((refine hK' _ _ ?_); clear hK'; clear K'))); (try simp only [aput, List.set_cons_succ, List.set_cons_zero, List.length_cons, List.length_nil, List.length_append, List.cons_append, List.nil_append, Nat.reduceAdd, List.append_nil]))))
      | (with_reducible refine AWp.seq ?_)
      | (with_reducible refine AWp.block ?_)
      | (with_reducible refine AWp.skip ?_)
      | (with_reducible refine AWp.ret ?_)
      | (with_reducible refine AWp.exit ?_)
      | (refine AWp.cond _ rfl (fun hcond => ?_) (fun hcond => ?_) <;> first | (simp only [reduceCtorEq, Bool.true_eq_false, Bool.false_eq_true] at hcond; done) | (simp only [decide_eq_true_eq, decide_eq_false_iff_not, Bool.not_eq_true', Bool.not_eq_false', Int.not_lt, Int.not_le] at hcond; try (exfalso; omega)) | skip)
      | (with_reducible refine AThen.n ?_)
      | (with_reducible refine AThen.r ?_)
      | (with_reducible refine AThen.e ?_)
      | (with_reducible refine AInBlock.n ?_)
      | (with_reducible refine AInBlock.r ?_)
      | (with_reducible refine AInBlock.hit ?_)
      | (with_reducible refine AInBlock.miss (by with_unfolding_all decide) ?_))
    all_goals
      simp [Rets, aret, Blk.cells, ty, Try.results52, ares, toT1, toT, borrow, borrow0, capCell, toTree0, tint, edgeE, e1, f1]
    all_goals omega
def checkE (n : Int) (es : List E) : Nat → Int
  | 0 => 0
  | k + 1 => if edgeE n es (es.length - (k + 1)) ≠ 0 then edgeE n es (es.length - (k + 1)) else checkE n es k
def checkG (g : G) : Int := if g.n < 1 ∨ 12 < g.n then 2 else checkE g.n g.es g.es.length
theorem CheckR_ok (g : G) (hl : g.es.length < 2 ^ 40) : ACall Try.prog 14 [tG g] (tint (checkG g)) := by
  refine ACall.of_body Try.func14 rfl (by kernel_rfl) ?_
  simp only [entry, Try.ntmps14, ofT, ofT1, ofTree, List.map_cons, List.map_nil, List.length_cons, List.length_nil, Nat.reduceAdd, Nat.reduceSub, List.replicate_succ, List.replicate_zero, List.cons_append, List.nil_append, tG]
  repeat' (first
    | (with_reducible refine AWp.seq_region (fun K hK => ?_))
    | (with_reducible refine AWp.last_region (fun K hK => ?_))
    | (with_reducible refine AWp.seq_draw (by with_unfolding_all kernel_rfl) (fun K hK => ?_))
    | (with_reducible refine AWp.last_draw (by with_unfolding_all kernel_rfl) (fun K hK => ?_))
    | ((with_reducible first | refine vcEnd ?_ | refine vcEndD ?_ | refine vcEndM ?_); refine hK _ _ ?_; clear hK; clear K)
    | ((with_reducible first | refine vcStepN (by rfl) (by with_unfolding_all rfl) ?_ | refine vcStepND (by rfl) (by with_unfolding_all rfl) ?_ | refine vcStepNM (by rfl) (by with_unfolding_all rfl) ?_); try simp only [aput, List.set_cons_succ, List.set_cons_zero, List.length_cons, List.length_nil, List.length_append, List.cons_append, List.nil_append, Nat.reduceAdd, List.append_nil])
    | ((with_reducible first | refine vcStep (by rfl) (fun K' hK' => ?_) | refine vcStepD (by rfl) (fun K' hK' => ?_) | refine vcStepM (by rfl) (fun K' hK' => ?_) | refine vcStepG (by rfl) (by with_unfolding_all rfl) (fun hguard K' hK' => ?_) (fun hguard => ?_) | refine vcStepGD (by rfl) (by with_unfolding_all rfl) (fun hguard K' hK' => ?_) (fun hguard => ?_) | refine vcStepGM (by rfl) (by with_unfolding_all rfl) (fun hguard K' hK' => ?_) (fun hguard => ?_)) <;> ((try (replace hguard := hguard; (try simp only [decide_eq_true_eq, decide_eq_false_iff_not, Bool.not_eq_true', Bool.not_eq_false', Bool.not_true, Bool.not_false, Int.not_lt, Int.not_le, reduceCtorEq, Bool.true_eq_false, Bool.false_eq_true] at hguard); (try (exfalso; (try clear hK'); (try clear hK); omega)))) <;> ((try (simp +contextual only [go_sem])); (repeat' (first | ((with_reducible refine hK' _ _ ?_); clear hK'; clear K') | (with_reducible refine And.intro ?_ ?_) | ((with_reducible intro hpath); try first | (exfalso; (try clear hK'); (try clear hK); omega) | (exact absurd hpath (by assumption))) | ((with_reducible first | refine gi1 ?_ | refine gi2 ?_ | refine gn1 ?_ | refine gn2 ?_ | refine gi3 ?_ | refine gn3 ?_ | refine gnot ?_); omega) | (with_reducible exact True.intro) | ((refine hK' _ _ ?_); clear hK'; clear K'))); (try simp only [aput, List.set_cons_succ, List.set_cons_zero, List.length_cons, List.length_nil, List.length_append, List.cons_append, List.nil_append, Nat.reduceAdd, List.append_nil]))))
    | (with_reducible refine AWp.seq ?_)
    | (with_reducible refine AWp.block ?_)
    | (with_reducible refine AWp.skip ?_)
    | (with_reducible refine AWp.ret ?_)
    | (with_reducible refine AWp.exit ?_)
    | (refine AWp.cond _ rfl (fun hcond => ?_) (fun hcond => ?_) <;> first | (simp only [reduceCtorEq, Bool.true_eq_false, Bool.false_eq_true] at hcond; done) | (simp only [decide_eq_true_eq, decide_eq_false_iff_not, Bool.not_eq_true', Bool.not_eq_false', Int.not_lt, Int.not_le] at hcond; try (exfalso; omega)) | skip)
    | (with_reducible refine AThen.n ?_)
    | (with_reducible refine AThen.r ?_)
    | (with_reducible refine AThen.e ?_)
    | (with_reducible refine AInBlock.n ?_)
    | (with_reducible refine AInBlock.r ?_)
    | (with_reducible refine AInBlock.hit ?_)
    | (with_reducible refine AInBlock.miss (by with_unfolding_all decide) ?_))
  ·
    simp [Rets, aret, Blk.cells, ty, Try.results14, ares, toT1, toT, borrow, borrow0, capCell, toTree0, tint, checkG]
    all_goals omega
  ·
    refine AWp.loopx (α := Nat) (fun i => (⟨.c .any :: .c (.ptr 0 0) :: .c .any :: .c (.int .i64 (i : Int)) :: .c .any :: .c .any :: .c .any :: .c .any :: .c .any :: .c .any :: .c .any :: .c .any :: .c .any :: .c .any :: .c .any :: .c .any :: .c .any :: .c .any :: .c .any :: .c .any :: .c .any :: .c .any :: .c .any :: .c .any :: .c .any :: .c .any :: [], [.box [.int .i64 g.n, .slice (eRows g.es) .none]]⟩ : St)) (fun i => i ≤ g.es.length ∧ checkG g = checkE g.n g.es (g.es.length - i)) (fun i => g.es.length - i) (0) (Weak.head2 (m := 1) (by omega) ((fun t f => [f, t, f, t, f, f, f, f, f, f, f, f, f, f, f, f, f, f, f, f, f, f, f, f, f, f]) true false) (by first | rfl | (simp [mask]; done) | (simp [mask] <;> omega)) (by first | rfl | (simp; done) | (simp <;> omega)) (by (repeat' (first | exact valsIn_nil _ | exact blksIn_nil _ | exact cellsIn_nil _ | refine And.intro ?_ ?_ | refine valsIn_cons ?_ ?_ | refine blksIn_cons ?_ ?_ | refine cellsIn_cons ?_ ?_ | exact True.intro | (show _ < _; omega) | exact cellsIn_map (fun _ => True.intro) | (intro c hc; cases hc; done) | (intro c hc; simp only [List.mem_cons, List.not_mem_nil, or_false] at hc; subst hc; exact True.intro))))) ?_ (fun i hI => ?_)
    · exact ⟨Nat.zero_le _, by simp only [checkG, Nat.sub_zero]; rw [if_neg (by omega)]⟩
    · obtain ⟨hi, hx⟩ := hI
      by_cases hlt : i < g.es.length
      · have es : g.es.length - i = (g.es.length - (i + 1)) + 1 := by omega
        have ei : g.es.length - (g.es.length - (i + 1) + 1) = i := by omega
        rw [es, checkE, ei] at hx
        repeat' (first
          | (with_reducible refine AWp.seq_region (fun K hK => ?_))
          | (with_reducible refine AWp.last_region (fun K hK => ?_))
          | (with_reducible refine AWp.seq_draw (by with_unfolding_all kernel_rfl) (fun K hK => ?_))
          | (with_reducible refine AWp.last_draw (by with_unfolding_all kernel_rfl) (fun K hK => ?_))
          | ((with_reducible first | refine vcEnd ?_ | refine vcEndD ?_ | refine vcEndM ?_); refine hK _ _ ?_; clear hK; clear K)
          | ((with_reducible first | refine vcStepN (by rfl) (by with_unfolding_all rfl) ?_ | refine vcStepND (by rfl) (by with_unfolding_all rfl) ?_ | refine vcStepNM (by rfl) (by with_unfolding_all rfl) ?_); try simp only [aput, List.set_cons_succ, List.set_cons_zero, List.length_cons, List.length_nil, List.length_append, List.cons_append, List.nil_append, Nat.reduceAdd, List.append_nil])
          | ((with_reducible first | refine vcStep (by rfl) (fun K' hK' => ?_) | refine vcStepD (by rfl) (fun K' hK' => ?_) | refine vcStepM (by rfl) (fun K' hK' => ?_) | refine vcStepG (by rfl) (by with_unfolding_all rfl) (fun hguard K' hK' => ?_) (fun hguard => ?_) | refine vcStepGD (by rfl) (by with_unfolding_all rfl) (fun hguard K' hK' => ?_) (fun hguard => ?_) | refine vcStepGM (by rfl) (by with_unfolding_all rfl) (fun hguard K' hK' => ?_) (fun hguard => ?_)) <;> ((try (replace hguard := hguard; (try simp only [decide_eq_true_eq, decide_eq_false_iff_not, Bool.not_eq_true', Bool.not_eq_false', Bool.not_true, Bool.not_false, Int.not_lt, Int.not_le, reduceCtorEq, Bool.true_eq_false, Bool.false_eq_true] at hguard); (try (exfalso; (try clear hK'); (try clear hK); omega)))) <;> ((try (simp +contextual only [go_sem, eRows_len, Int.ofNat_lt])); (repeat' (first | ((with_reducible refine hK' _ _ ?_); clear hK'; clear K') | ((with_reducible first | refine ⟨_, _, ACall.h (edge_ok g i hlt hl) (by with_unfolding_all rfl), ?_⟩ | refine ⟨_, ACall.h (edge_ok g i hlt hl) (by with_unfolding_all rfl), ?_⟩ | refine ⟨_, _, ACall.hb (edge_ok g i hlt hl) (by with_unfolding_all rfl) (by with_unfolding_all rfl), ?_⟩ | refine ⟨_, ACall.hb (edge_ok g i hlt hl) (by with_unfolding_all rfl) (by with_unfolding_all rfl), ?_⟩); (try simp +contextual only [go_sem, eRows_len, Int.ofNat_lt])) | (with_reducible refine And.intro ?_ ?_) | ((with_reducible intro hpath); try first | (exfalso; (try clear hK'); (try clear hK); omega) | (exact absurd hpath (by assumption))) | ((with_reducible first | refine gi1 ?_ | refine gi2 ?_ | refine gn1 ?_ | refine gn2 ?_ | refine gi3 ?_ | refine gn3 ?_ | refine gnot ?_); omega) | (with_reducible exact True.intro) | ((refine hK' _ _ ?_); clear hK'; clear K'))); (try simp only [aput, List.set_cons_succ, List.set_cons_zero, List.length_cons, List.length_nil, List.length_append, List.cons_append, List.nil_append, Nat.reduceAdd, List.append_nil]))))
          | (with_reducible refine AWp.seq ?_)
          | (with_reducible refine AWp.block ?_)
          | (with_reducible refine AWp.skip ?_)
          | (with_reducible refine AWp.ret ?_)
          | (with_reducible refine AWp.exit ?_)
          | (refine AWp.cond _ rfl (fun hcond => ?_) (fun hcond => ?_) <;> first | (simp only [reduceCtorEq, Bool.true_eq_false, Bool.false_eq_true] at hcond; done) | (simp only [decide_eq_true_eq, decide_eq_false_iff_not, Bool.not_eq_true', Bool.not_eq_false', Int.not_lt, Int.not_le] at hcond; try (exfalso; omega)) | skip)
          | (with_reducible refine AThen.n ?_)
          | (with_reducible refine AThen.r ?_)
          | (with_reducible refine AThen.e ?_)
          | (with_reducible refine AInBlock.n ?_)
          | (with_reducible refine AInBlock.r ?_)
          | (with_reducible refine AInBlock.hit ?_)
          | (with_reducible refine AInBlock.miss (by with_unfolding_all decide) ?_))
        · have hx2 : checkG g = edgeE g.n g.es i := by rw [hx, if_pos (by assumption)]
          simp [Rets, aret, Blk.cells, ty, Try.results14, ares, toT1, toT, borrow, borrow0, capCell, toTree0, tint, hx2]
        · refine ⟨i + 1, Weak.head2 (m := 1) (by omega) ((fun t f => [f, t, f, t, f, f, f, f, f, f, f, f, f, f, f, f, f, f, f, f, f, f, f, f, f, f]) true false) (by first | rfl | (simp [mask]; done) | (simp [mask] <;> simp_all <;> omega)) (by first | rfl | (simp [mask]; done) | (simp [mask] <;> simp_all <;> omega)) (by (repeat' (first | exact valsIn_nil _ | exact blksIn_nil _ | exact cellsIn_nil _ | refine And.intro ?_ ?_ | refine valsIn_cons ?_ ?_ | refine blksIn_cons ?_ ?_ | refine cellsIn_cons ?_ ?_ | exact True.intro | (show _ < _; omega) | exact cellsIn_map (fun _ => True.intro) | (intro c hc; cases hc; done) | (intro c hc; simp only [List.mem_cons, List.not_mem_nil, or_false] at hc; subst hc; exact True.intro)))), ?_, ?_⟩
          · exact ⟨hlt, by rw [hx, if_neg (by omega)]⟩
          · omega
      · have ei : i = g.es.length := by omega
        have h0 : checkG g = 0 := by rw [hx, ei, Nat.sub_self, checkE]
        repeat' (first
          | (with_reducible refine AWp.seq_region (fun K hK => ?_))
          | (with_reducible refine AWp.last_region (fun K hK => ?_))
          | (with_reducible refine AWp.seq_draw (by with_unfolding_all kernel_rfl) (fun K hK => ?_))
          | (with_reducible refine AWp.last_draw (by with_unfolding_all kernel_rfl) (fun K hK => ?_))
          | ((with_reducible first | refine vcEnd ?_ | refine vcEndD ?_ | refine vcEndM ?_); refine hK _ _ ?_; clear hK; clear K)
          | ((with_reducible first | refine vcStepN (by rfl) (by with_unfolding_all rfl) ?_ | refine vcStepND (by rfl) (by with_unfolding_all rfl) ?_ | refine vcStepNM (by rfl) (by with_unfolding_all rfl) ?_); try simp only [aput, List.set_cons_succ, List.set_cons_zero, List.length_cons, List.length_nil, List.length_append, List.cons_append, List.nil_append, Nat.reduceAdd, List.append_nil])
          | ((with_reducible first | refine vcStep (by rfl) (fun K' hK' => ?_) | refine vcStepD (by rfl) (fun K' hK' => ?_) | refine vcStepM (by rfl) (fun K' hK' => ?_) | refine vcStepG (by rfl) (by with_unfolding_all rfl) (fun hguard K' hK' => ?_) (fun hguard => ?_) | refine vcStepGD (by rfl) (by with_unfolding_all rfl) (fun hguard K' hK' => ?_) (fun hguard => ?_) | refine vcStepGM (by rfl) (by with_unfolding_all rfl) (fun hguard K' hK' => ?_) (fun hguard => ?_)) <;> ((try (replace hguard := hguard; (try simp only [decide_eq_true_eq, decide_eq_false_iff_not, Bool.not_eq_true', Bool.not_eq_false', Bool.not_true, Bool.not_false, Int.not_lt, Int.not_le, reduceCtorEq, Bool.true_eq_false, Bool.false_eq_true] at hguard); (try (exfalso; (try clear hK'); (try clear hK); omega)))) <;> ((try (simp +contextual only [go_sem, eRows_len, Int.ofNat_lt])); (repeat' (first | ((with_reducible refine hK' _ _ ?_); clear hK'; clear K') | (with_reducible refine And.intro ?_ ?_) | ((with_reducible intro hpath); try first | (exfalso; (try clear hK'); (try clear hK); omega) | (exact absurd hpath (by assumption))) | ((with_reducible first | refine gi1 ?_ | refine gi2 ?_ | refine gn1 ?_ | refine gn2 ?_ | refine gi3 ?_ | refine gn3 ?_ | refine gnot ?_); omega) | (with_reducible exact True.intro) | ((refine hK' _ _ ?_); clear hK'; clear K'))); (try simp only [aput, List.set_cons_succ, List.set_cons_zero, List.length_cons, List.length_nil, List.length_append, List.cons_append, List.nil_append, Nat.reduceAdd, List.append_nil]))))
          | (with_reducible refine AWp.seq ?_)
          | (with_reducible refine AWp.block ?_)
          | (with_reducible refine AWp.skip ?_)
          | (with_reducible refine AWp.ret ?_)
          | (with_reducible refine AWp.exit ?_)
          | (refine AWp.cond _ rfl (fun hcond => ?_) (fun hcond => ?_) <;> first | (simp only [reduceCtorEq, Bool.true_eq_false, Bool.false_eq_true] at hcond; done) | (simp only [decide_eq_true_eq, decide_eq_false_iff_not, Bool.not_eq_true', Bool.not_eq_false', Int.not_lt, Int.not_le] at hcond; try (exfalso; omega)) | skip)
          | (with_reducible refine AThen.n ?_)
          | (with_reducible refine AThen.r ?_)
          | (with_reducible refine AThen.e ?_)
          | (with_reducible refine AInBlock.n ?_)
          | (with_reducible refine AInBlock.r ?_)
          | (with_reducible refine AInBlock.hit ?_)
          | (with_reducible refine AInBlock.miss (by with_unfolding_all decide) ?_))
        simp [Rets, aret, Blk.cells, ty, Try.results14, ares, toT1, toT, borrow, borrow0, capCell, toTree0, tint, h0]
  ·
    simp [Rets, aret, Blk.cells, ty, Try.results14, ares, toT1, toT, borrow, borrow0, capCell, toTree0, tint, checkG]
    all_goals omega
end Go.Proofs.Ytbdpkgckdkpepaa
