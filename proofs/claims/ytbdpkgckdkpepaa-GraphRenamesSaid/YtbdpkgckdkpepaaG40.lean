/- A part of the proof: contracts of functions of the program, or plain lemmas. -/
import Derived.Test.YtbdpkgckdkpepaaG39
import Derived.Test.YtbdpkgckdkpepaaG13
set_option linter.all false
namespace Go.Proofs.Ytbdpkgckdkpepaa
open Go.Sp
set_option linter.unusedSimpArgs false
set_option linter.unusedVariables false
set_option maxHeartbeats 4000000
set_option maxRecDepth 100000


def iC (B : List Int) : List ACell := B.map fun x => ACell.int .i64 x
theorem iC_len (B : List Int) : (iC B).length = B.length := by simp [iC]
theorem iC_set (B : List Int) (i : Nat) (x : Int) : (iC B).set i (.int .i64 x) = iC (B.set i x) := by simp [iC, List.map_set]
theorem made_ints (n : Nat) : madeA [ACell.int .i64 0] n = iC (List.replicate n 0) := by simp [madeA, iC]
theorem iC_trees (B : List Int) : (iC B).mapM toTree0 = some (B.map fun x => Tree.int .i64 x) := by
  induction B with
  | nil => rfl
  | cons x xs ih => simp only [iC, List.map_cons, List.mapM_cons] at ih ⊢; rw [ih]; rfl
theorem iRows_pre (B : List Int) (i : Nat) (r : List Tree) (m : Nat) (x : Tree) (h1 : (iRows B)[i]? = some r) (h2 : r[m]? = some x) : (B.map fun x => Tree.int .i64 x)[i * 1 + m]? = some x := by
  simp only [iRows, List.getElem?_map] at h1
  cases hb : B[i]? with
  | none => rw [hb] at h1; simp at h1
  | some b =>
    rw [hb] at h1
    simp at h1
    subst h1
    cases m with
    | zero => simp at h2; simp [hb, h2]
    | succ m => simp at h2
theorem Renames_ok (g : G) (l : List Int) : ACall Try.prog 8 [tG g, tints l] (tbool true) := by
  refine ACall.of_body Try.func8 rfl (by kernel_rfl) ?_
  simp only [entry, Try.ntmps8, ofT, ofT1, ofTree, List.map_cons, List.map_nil, List.length_cons, List.length_nil, Nat.reduceAdd, Nat.reduceSub, List.replicate_succ, List.replicate_zero, List.cons_append, List.nil_append, tG, tints]
  by_cases hr : rightB g = true
  case neg =>
    have h0 : ACall Try.prog 33 [tG g] (tbool false) := by have := right_ok g; rwa [show rightB g = false by simpa using hr] at this
    repeat' (first
      | (with_reducible refine AWp.seq_region (fun K hK => ?_))
      | (with_reducible refine AWp.last_region (fun K hK => ?_))
      | (with_reducible refine AWp.seq_draw (by with_unfolding_all kernel_rfl) (fun K hK => ?_))
      | (with_reducible refine AWp.last_draw (by with_unfolding_all kernel_rfl) (fun K hK => ?_))
      | ((with_reducible first | refine vcEnd ?_ | refine vcEndD ?_ | refine vcEndM ?_); refine hK _ _ ?_; clear hK; clear K)
      | ((with_reducible first | refine vcStepN (by rfl) (by with_unfolding_all rfl) ?_ | refine vcStepND (by rfl) (by with_unfolding_all rfl) ?_ | refine vcStepNM (by rfl) (by with_unfolding_all rfl) ?_); try simp only [aput, List.set_cons_succ, List.set_cons_zero, List.length_cons, List.length_nil, List.length_append, List.cons_append, List.nil_append, Nat.reduceAdd, List.append_nil])
      | ((with_reducible first | refine vcStep (by rfl) (fun K' hK' => ?_) | refine vcStepD (by rfl) (fun K' hK' => ?_) | refine vcStepM (by rfl) (fun K' hK' => ?_) | refine vcStepG (by rfl) (by with_unfolding_all rfl) (fun hguard K' hK' => ?_) (fun hguard => ?_) | refine vcStepGD (by rfl) (by with_unfolding_all rfl) (fun hguard K' hK' => ?_) (fun hguard => ?_) | refine vcStepGM (by rfl) (by with_unfolding_all rfl) (fun hguard K' hK' => ?_) (fun hguard => ?_)) <;> ((try (replace hguard := hguard; (try simp only [decide_eq_true_eq, decide_eq_false_iff_not, Bool.not_eq_true', Bool.not_eq_false', Bool.not_true, Bool.not_false, Int.not_lt, Int.not_le, reduceCtorEq, Bool.true_eq_false, Bool.false_eq_true] at hguard); (try (exfalso; (try clear hK'); (try clear hK); omega)))) <;> ((try (simp +contextual only [go_sem])); (repeat' (first | ((with_reducible refine hK' _ _ ?_); clear hK'; clear K') | ((with_reducible first | refine ⟨_, _, ACall.h (h0) (by with_unfolding_all rfl), ?_⟩ | refine ⟨_, ACall.h (h0) (by with_unfolding_all rfl), ?_⟩ | refine ⟨_, _, ACall.hb (h0) (by with_unfolding_all rfl) (by with_unfolding_all rfl), ?_⟩ | refine ⟨_, ACall.hb (h0) (by with_unfolding_all rfl) (by with_unfolding_all rfl), ?_⟩ | refine ⟨_, _, ACall.h (awake_ok) (by with_unfolding_all rfl), ?_⟩ | refine ⟨_, ACall.h (awake_ok) (by with_unfolding_all rfl), ?_⟩ | refine ⟨_, _, ACall.hb (awake_ok) (by with_unfolding_all rfl) (by with_unfolding_all rfl), ?_⟩ | refine ⟨_, ACall.hb (awake_ok) (by with_unfolding_all rfl) (by with_unfolding_all rfl), ?_⟩); (try simp +contextual only [go_sem])) | (with_reducible refine And.intro ?_ ?_) | ((with_reducible intro hpath); try first | (exfalso; (try clear hK'); (try clear hK); omega) | (exact absurd hpath (by assumption))) | ((with_reducible first | refine gi1 ?_ | refine gi2 ?_ | refine gn1 ?_ | refine gn2 ?_ | refine gi3 ?_ | refine gn3 ?_ | refine gnot ?_); omega) | (with_reducible exact True.intro) | ((refine hK' _ _ ?_); clear hK'; clear K'))); (try simp only [aput, List.set_cons_succ, List.set_cons_zero, List.length_cons, List.length_nil, List.length_append, List.cons_append, List.nil_append, Nat.reduceAdd, List.append_nil]))))
      | (with_reducible refine AWp.seq ?_)
      | (with_reducible refine AWp.block ?_)
      | (with_reducible refine AWp.skip ?_)
      | (with_reducible refine AWp.ret ?_)
      | (with_reducible refine AWp.exit ?_)
      | (refine AWp.cond _ rfl (fun hcond => ?_) (fun hcond => ?_) <;> first | (simp only [reduceCtorEq, Bool.true_eq_false, Bool.false_eq_true] at hcond; done) | (simp only [decide_eq_true_eq, decide_eq_false_iff_not, Bool.not_eq_true', Bool.not_eq_false', Int.not_lt, Int.not_le] at hcond; try (exfalso; omega)) | skip)
      | (with_reducible refine AThen.n ?_)
      | (with_reducible refine AThen.r ?_)
      | (with_reducible refine AThen.e ?_)
      | (with_reducible refine AInBlock.n ?_)
      | (with_reducible refine AInBlock.r ?_)
      | (with_reducible refine AInBlock.hit ?_)
      | (with_reducible refine AInBlock.miss (by with_unfolding_all decide) ?_))
    simp [Rets, aret, Blk.cells, ty, Try.results8, ares, toT1, toT, borrow, borrow0, capCell, toTree0, tbool]
  have h0 : ACall Try.prog 33 [tG g] (tbool true) := by have := right_ok g; rwa [hr] at this
  obtain ⟨n, hR⟩ := rightG_of hr
  have hl := hR.l
  have hn := hR.nn
  have hn1 := hR.n1
  have hn12 := hR.n12
  have hs400 := hR.s
  have hc := hR.c
  have hN := Renaming_ok g.n l (fun h => by omega)
  by_cases hE : rnmE g.n l = 0
  case neg =>
    generalize rnmE g.n l = E at *
    repeat' (first
      | (with_reducible refine AWp.seq_region (fun K hK => ?_))
      | (with_reducible refine AWp.last_region (fun K hK => ?_))
      | (with_reducible refine AWp.seq_draw (by with_unfolding_all kernel_rfl) (fun K hK => ?_))
      | (with_reducible refine AWp.last_draw (by with_unfolding_all kernel_rfl) (fun K hK => ?_))
      | ((with_reducible first | refine vcEnd ?_ | refine vcEndD ?_ | refine vcEndM ?_); refine hK _ _ ?_; clear hK; clear K)
      | ((with_reducible first | refine vcStepN (by rfl) (by with_unfolding_all rfl) ?_ | refine vcStepND (by rfl) (by with_unfolding_all rfl) ?_ | refine vcStepNM (by rfl) (by with_unfolding_all rfl) ?_); try simp only [aput, List.set_cons_succ, List.set_cons_zero, List.length_cons, List.length_nil, List.length_append, List.cons_append, List.nil_append, Nat.reduceAdd, List.append_nil])
      | ((with_reducible first | refine vcStep (by rfl) (fun K' hK' => ?_) | refine vcStepD (by rfl) (fun K' hK' => ?_) | refine vcStepM (by rfl) (fun K' hK' => ?_) | refine vcStepG (by rfl) (by with_unfolding_all rfl) (fun hguard K' hK' => ?_) (fun hguard => ?_) | refine vcStepGD (by rfl) (by with_unfolding_all rfl) (fun hguard K' hK' => ?_) (fun hguard => ?_) | refine vcStepGM (by rfl) (by with_unfolding_all rfl) (fun hguard K' hK' => ?_) (fun hguard => ?_)) <;> ((try (replace hguard := hguard; (try simp only [decide_eq_true_eq, decide_eq_false_iff_not, Bool.not_eq_true', Bool.not_eq_false', Bool.not_true, Bool.not_false, Int.not_lt, Int.not_le, reduceCtorEq, Bool.true_eq_false, Bool.false_eq_true] at hguard); (try (exfalso; (try clear hK'); (try clear hK); omega)))) <;> ((try (simp +contextual only [go_sem, hE])); (repeat' (first | ((with_reducible refine hK' _ _ ?_); clear hK'; clear K') | ((with_reducible first | refine ⟨_, _, ACall.h (h0) (by with_unfolding_all rfl), ?_⟩ | refine ⟨_, ACall.h (h0) (by with_unfolding_all rfl), ?_⟩ | refine ⟨_, _, ACall.hb (h0) (by with_unfolding_all rfl) (by with_unfolding_all rfl), ?_⟩ | refine ⟨_, ACall.hb (h0) (by with_unfolding_all rfl) (by with_unfolding_all rfl), ?_⟩ | refine ⟨_, _, ACall.h (hN) (by with_unfolding_all rfl), ?_⟩ | refine ⟨_, ACall.h (hN) (by with_unfolding_all rfl), ?_⟩ | refine ⟨_, _, ACall.hb (hN) (by with_unfolding_all rfl) (by with_unfolding_all rfl), ?_⟩ | refine ⟨_, ACall.hb (hN) (by with_unfolding_all rfl) (by with_unfolding_all rfl), ?_⟩ | refine ⟨_, _, ACall.h (awake_ok) (by with_unfolding_all rfl), ?_⟩ | refine ⟨_, ACall.h (awake_ok) (by with_unfolding_all rfl), ?_⟩ | refine ⟨_, _, ACall.hb (awake_ok) (by with_unfolding_all rfl) (by with_unfolding_all rfl), ?_⟩ | refine ⟨_, ACall.hb (awake_ok) (by with_unfolding_all rfl) (by with_unfolding_all rfl), ?_⟩); (try simp +contextual only [go_sem, hE])) | (with_reducible refine And.intro ?_ ?_) | ((with_reducible intro hpath); try first | (exfalso; (try clear hK'); (try clear hK); omega) | (exact absurd hpath (by assumption))) | ((with_reducible first | refine gi1 ?_ | refine gi2 ?_ | refine gn1 ?_ | refine gn2 ?_ | refine gi3 ?_ | refine gn3 ?_ | refine gnot ?_); omega) | (with_reducible exact True.intro) | ((refine hK' _ _ ?_); clear hK'; clear K'))); (try simp only [aput, List.set_cons_succ, List.set_cons_zero, List.length_cons, List.length_nil, List.length_append, List.cons_append, List.nil_append, Nat.reduceAdd, List.append_nil]))))
      | (with_reducible refine AWp.seq ?_)
      | (with_reducible refine AWp.block ?_)
      | (with_reducible refine AWp.skip ?_)
      | (with_reducible refine AWp.ret ?_)
      | (with_reducible refine AWp.exit ?_)
      | (refine AWp.cond _ rfl (fun hcond => ?_) (fun hcond => ?_) <;> first | (simp only [reduceCtorEq, Bool.true_eq_false, Bool.false_eq_true] at hcond; done) | (simp only [decide_eq_true_eq, decide_eq_false_iff_not, Bool.not_eq_true', Bool.not_eq_false', Int.not_lt, Int.not_le] at hcond; try (exfalso; omega)) | skip)
      | (with_reducible refine AThen.n ?_)
      | (with_reducible refine AThen.r ?_)
      | (with_reducible refine AThen.e ?_)
      | (with_reducible refine AInBlock.n ?_)
      | (with_reducible refine AInBlock.r ?_)
      | (with_reducible refine AInBlock.hit ?_)
      | (with_reducible refine AInBlock.miss (by with_unfolding_all decide) ?_))
    simp [Rets, aret, Blk.cells, ty, Try.results8, ares, toT1, toT, borrow, borrow0, capCell, toTree0, tbool]
  rw [hE] at hN
  rw [hn] at hE
  have hP := permL_of hE
  have hlen := hP.len
  obtain ⟨hrel, hR1⟩ := ren_of hc hn hP
  obtain ⟨hPb, hS, hF⟩ := back_perm hP
  have hRel : ACall Try.prog 38 [tG g, tints l] (.tup [tG (relG g l), tint 0]) := by
    have := Relabel_ok g l (by omega) (by omega); rwa [hrel] at this
  have hsz := ren_size hR1
  have hdg := fun {v : Int} (hv : 0 ≤ v ∧ v < n) => ren_deg hR1 hv
  have hes : (relG g l).es.length = g.es.length := by rw [hR1.perm.length_eq, List.length_map]
  obtain ⟨hrel2, hR2⟩ := ren_of hR1.c' hR1.nn' hPb
  have hk := ren_back hR1 hR2 hS
  rw [hk] at hR2
  have hgen := ren_genus hR1 hR2 hS hF
  have hRel2 : ACall Try.prog 38 [tG (relG g l), tints (backN l n n)] (.tup [tG g, tint 0]) := by
    have := Relabel_ok (relG g l) (backN l n n) (by omega) (by rw [backN_len]; omega); rwa [hrel2, hk] at this
  have hc' := hR1.c'
  have hn' := hR1.nn'
  have hZg : ACall Try.prog 15 [tG g] (.tup [tint (endsL g.es).length, tint 0]) := by
    have := Size_ok g (by omega); rwa [hc, if_neg (by decide)] at this
  have hZh : ACall Try.prog 15 [tG (relG g l)] (.tup [tint (endsL g.es).length, tint 0]) := by
    have := Size_ok (relG g l) (by omega); rwa [hc', if_neg (by decide), hsz] at this
  have hUg : ACall Try.prog 17 [tG g] (.tup [tint (genL (endsL g.es)), tint 0]) := by
    have := Genus_ok g (by omega); rwa [hc, if_neg (by decide)] at this
  have hUh : ACall Try.prog 17 [tG (relG g l)] (.tup [tint (genL (endsL g.es)), tint 0]) := by
    have := Genus_ok (relG g l) (by omega); rwa [hc', if_neg (by decide), hgen] at this
  have hSa : ACall Try.prog 25 [tG g, tG g] (tbool true) := by
    have := Same_ok g g (by omega) (by omega); rwa [decide_eq_true ⟨rfl, rfl⟩] at this
  have hDg : ∀ v : Nat, v < n → ACall Try.prog 34 [tG g, tint v] (.tup [tint (degL v (endsL g.es)), tint 0]) := fun v hv => by
    have := Degree_ok g v (by omega); rwa [at_one hR hv, if_neg (by decide)] at this
  have hDh : ∀ v : Nat, v < n → ACall Try.prog 34 [tG (relG g l), tint (piF l v)] (.tup [tint (degL v (endsL g.es)), tint 0]) := fun v hv => by
    have h2 := hP.rng' (u := v) (by omega)
    have h3 : atE (relG g l) [piF l v] = 0 := by
      unfold atE; rw [if_neg (by omega), if_pos (by intro x hx; simp at hx; subst hx; omega)]
    have := Degree_ok (relG g l) (piF l v) (by omega); rwa [h3, if_neg (by decide), hdg (by omega)] at this
  generalize relG g l = h at *
  generalize genL (endsL g.es) = gg at *
  generalize (endsL g.es).length = zz at *
  have hlI : (l.length : Int) = n := by omega
  obtain ⟨gn, es⟩ := g
  simp only at hn
  subst hn
  repeat' (first
    | (with_reducible refine AWp.seq_region (fun K hK => ?_))
    | (with_reducible refine AWp.last_region (fun K hK => ?_))
    | (with_reducible refine AWp.seq_draw (by with_unfolding_all kernel_rfl) (fun K hK => ?_))
    | (with_reducible refine AWp.last_draw (by with_unfolding_all kernel_rfl) (fun K hK => ?_))
    | ((with_reducible first | refine vcEnd ?_ | refine vcEndD ?_ | refine vcEndM ?_); refine hK _ _ ?_; clear hK; clear K)
    | ((with_reducible first | refine vcStepN (by rfl) (by with_unfolding_all rfl) ?_ | refine vcStepND (by rfl) (by with_unfolding_all rfl) ?_ | refine vcStepNM (by rfl) (by with_unfolding_all rfl) ?_); try simp only [aput, List.set_cons_succ, List.set_cons_zero, List.length_cons, List.length_nil, List.length_append, List.cons_append, List.nil_append, Nat.reduceAdd, List.append_nil])
    | ((with_reducible first | refine vcStep (by rfl) (fun K' hK' => ?_) | refine vcStepD (by rfl) (fun K' hK' => ?_) | refine vcStepM (by rfl) (fun K' hK' => ?_) | refine vcStepG (by rfl) (by with_unfolding_all rfl) (fun hguard K' hK' => ?_) (fun hguard => ?_) | refine vcStepGD (by rfl) (by with_unfolding_all rfl) (fun hguard K' hK' => ?_) (fun hguard => ?_) | refine vcStepGM (by rfl) (by with_unfolding_all rfl) (fun hguard K' hK' => ?_) (fun hguard => ?_)) <;> ((try (replace hguard := hguard; (try simp only [decide_eq_true_eq, decide_eq_false_iff_not, Bool.not_eq_true', Bool.not_eq_false', Bool.not_true, Bool.not_false, Int.not_lt, Int.not_le, reduceCtorEq, Bool.true_eq_false, Bool.false_eq_true] at hguard); (try (exfalso; (try clear hK'); (try clear hK); omega)))) <;> ((try (simp +contextual only [go_sem, iRows_len, made_ints, Int.toNat_natCast, hlI, hlen])); (repeat' (first | ((with_reducible refine hK' _ _ ?_); clear hK'; clear K') | ((with_reducible first | refine ⟨_, _, ACall.h (h0) (by with_unfolding_all rfl), ?_⟩ | refine ⟨_, ACall.h (h0) (by with_unfolding_all rfl), ?_⟩ | refine ⟨_, _, ACall.hb (h0) (by with_unfolding_all rfl) (by with_unfolding_all rfl), ?_⟩ | refine ⟨_, ACall.hb (h0) (by with_unfolding_all rfl) (by with_unfolding_all rfl), ?_⟩ | refine ⟨_, _, ACall.h (hN) (by with_unfolding_all rfl), ?_⟩ | refine ⟨_, ACall.h (hN) (by with_unfolding_all rfl), ?_⟩ | refine ⟨_, _, ACall.hb (hN) (by with_unfolding_all rfl) (by with_unfolding_all rfl), ?_⟩ | refine ⟨_, ACall.hb (hN) (by with_unfolding_all rfl) (by with_unfolding_all rfl), ?_⟩ | refine ⟨_, _, ACall.h (hRel) (by with_unfolding_all rfl), ?_⟩ | refine ⟨_, ACall.h (hRel) (by with_unfolding_all rfl), ?_⟩ | refine ⟨_, _, ACall.hb (hRel) (by with_unfolding_all rfl) (by with_unfolding_all rfl), ?_⟩ | refine ⟨_, ACall.hb (hRel) (by with_unfolding_all rfl) (by with_unfolding_all rfl), ?_⟩); (try simp +contextual only [go_sem, iRows_len, made_ints, Int.toNat_natCast, hlI, hlen])) | (with_reducible refine And.intro ?_ ?_) | ((with_reducible intro hpath); try first | (exfalso; (try clear hK'); (try clear hK); omega) | (exact absurd hpath (by assumption))) | ((with_reducible first | refine gi1 ?_ | refine gi2 ?_ | refine gn1 ?_ | refine gn2 ?_ | refine gi3 ?_ | refine gn3 ?_ | refine gnot ?_); omega) | (with_reducible exact True.intro) | ((refine hK' _ _ ?_); clear hK'; clear K'))); (try simp only [aput, List.set_cons_succ, List.set_cons_zero, List.length_cons, List.length_nil, List.length_append, List.cons_append, List.nil_append, Nat.reduceAdd, List.append_nil]))))
    | (with_reducible refine AWp.seq ?_)
    | (with_reducible refine AWp.block ?_)
    | (with_reducible refine AWp.skip ?_)
    | (with_reducible refine AWp.ret ?_)
    | (with_reducible refine AWp.exit ?_)
    | (refine AWp.cond _ rfl (fun hcond => ?_) (fun hcond => ?_) <;> first | (simp only [reduceCtorEq, Bool.true_eq_false, Bool.false_eq_true] at hcond; done) | (simp only [decide_eq_true_eq, decide_eq_false_iff_not, Bool.not_eq_true', Bool.not_eq_false', Int.not_lt, Int.not_le] at hcond; try (exfalso; omega)) | skip)
    | (with_reducible refine AThen.n ?_)
    | (with_reducible refine AThen.r ?_)
    | (with_reducible refine AThen.e ?_)
    | (with_reducible refine AInBlock.n ?_)
    | (with_reducible refine AInBlock.r ?_)
    | (with_reducible refine AInBlock.hit ?_)
    | (with_reducible refine AInBlock.miss (by with_unfolding_all decide) ?_))
  refine AWp.loopx (α := Nat) (fun i => (⟨.c .any :: .c (.slice (iRows l) .none) :: .c (.ptr 0 0) :: .c .any :: .c (.bool false) :: .c (.ptr 1 0) :: .c (.int .i64 0) :: .c (.ref 2 1 0 n n) :: .c .any :: .c .any :: .c .any :: .c .any :: .c .any :: .c .any :: .c .any :: .c .any :: .c .any :: .c .any :: .c .any :: .c .any :: .c .any :: .c .any :: .c .any :: .c .any :: .c .any :: .c .any :: .c .any :: .c .any :: .c .any :: .c .any :: .c .any :: .c .any :: .c .any :: .c .any :: .c .any :: .c .any :: .c .any :: .c .any :: .c .any :: .c .any :: .c .any :: .c .any :: .c .any :: .c .any :: .c .any :: .c .any :: .c (.slice (iRows l) .none) :: .c (.int .i64 (n : Int)) :: .c (.int .i64 (i : Int)) :: .c .any :: .c .any :: .c .any :: .c .any :: .c .any :: .c .any :: .c .any :: .c .any :: .c .any :: .c .any :: .c .any :: .c .any :: .c .any :: .c .any :: .c .any :: .c .any :: .c .any :: .c .any :: .c .any :: .c .any :: .c .any :: .c .any :: .c .any :: .c .any :: .c .any :: .c .any :: .c .any :: .c .any :: .c .any :: .c .any :: .c .any :: .c .any :: .c .any :: .c .any :: .c .any :: .c .any :: .c .any :: .c .any :: .c .any :: .c .any :: .c .any :: .c .any :: .c .any :: .c .any :: .c .any :: .c .any :: .c .any :: .c .any :: .c .any :: .c .any :: .c .any :: .c .any :: .c .any :: .c .any :: .c .any :: .c .any :: .c .any :: .c .any :: .c .any :: .c .any :: .c .any :: .c .any :: .c .any :: .c .any :: .c .any :: .c .any :: .c .any :: .c .any :: .c .any :: .c .any :: .c .any :: .c .any :: .c .any :: .c .any :: .c .any :: .c .any :: .c .any :: .c .any :: .c .any :: .c .any :: .c .any :: .c .any :: .c .any :: .c .any :: .c .any :: .c .any :: .c .any :: .c .any :: .c .any :: .c .any :: .c .any :: .c .any :: .c .any :: [], [.box [.int .i64 (n : Int), .slice (eRows es) .none], .box [.int .i64 h.n, .slice (eRows h.es) .none], .box (iC (backN l n i))]⟩ : St)) (fun i => i ≤ n) (fun i => n - i) (0) (Weak.head2 (m := 3) (by omega) ((fun t f => [f, t, t, f, t, t, t, t, f, f, f, f, f, f, f, f, f, f, f, f, f, f, f, f, f, f, f, f, f, f, f, f, f, f, f, f, f, f, f, f, f, f, f, f, f, f, t, t, t, f, f, f, f, f, f, f, f, f, f, f, f, f, f, f, f, f, f, f, f, f, f, f, f, f, f, f, f, f, f, f, f, f, f, f, f, f, f, f, f, f, f, f, f, f, f, f, f, f, f, f, f, f, f, f, f, f, f, f, f, f, f, f, f, f, f, f, f, f, f, f, f, f, f, f, f, f, f, f, f, f, f, f, f, f, f, f, f, f, f, f, f, f]) true false) (by first | rfl | (simp [mask]; done) | (simp [mask] <;> omega)) (by first | rfl | (simp; done) | (simp <;> omega)) (by (repeat' (first | exact valsIn_nil _ | exact blksIn_nil _ | exact cellsIn_nil _ | refine And.intro ?_ ?_ | refine valsIn_cons ?_ ?_ | refine blksIn_cons ?_ ?_ | refine cellsIn_cons ?_ ?_ | exact True.intro | (show _ < _; omega) | exact cellsIn_map (fun _ => True.intro) | (intro c hc; cases hc; done) | (intro c hc; simp only [List.mem_cons, List.not_mem_nil, or_false] at hc; subst hc; exact True.intro))))) ?_ (fun i hI => ?_)
  · exact Nat.zero_le _
  · have hi : i ≤ n := hI
    clear hI
    by_cases hlt : i < n
    · have hltI : (i : Int) < n := by omega
      have hB := backN_succ l n i
      have hBl := backN_len l n i
      have h2 := hP.rng' (u := i) (by omega)
      have e0 := piF_get (l := l) (v := i) (by omega)
      rw [Int.toNat_natCast] at e0
      have e1 := iRows_get e0
      generalize backN l n i = B at *
      generalize piF l i = u at *
      repeat' (first
        | (with_reducible refine AWp.seq_region (fun K hK => ?_))
        | (with_reducible refine AWp.last_region (fun K hK => ?_))
        | (with_reducible refine AWp.seq_draw (by with_unfolding_all kernel_rfl) (fun K hK => ?_))
        | (with_reducible refine AWp.last_draw (by with_unfolding_all kernel_rfl) (fun K hK => ?_))
        | ((with_reducible first | refine vcEnd ?_ | refine vcEndD ?_ | refine vcEndM ?_); refine hK _ _ ?_; clear hK; clear K)
        | ((with_reducible first | refine vcStepN (by rfl) (by with_unfolding_all rfl) ?_ | refine vcStepND (by rfl) (by with_unfolding_all rfl) ?_ | refine vcStepNM (by rfl) (by with_unfolding_all rfl) ?_); try simp only [aput, List.set_cons_succ, List.set_cons_zero, List.length_cons, List.length_nil, List.length_append, List.cons_append, List.nil_append, Nat.reduceAdd, List.append_nil])
        | ((with_reducible first | refine vcStep (by rfl) (fun K' hK' => ?_) | refine vcStepD (by rfl) (fun K' hK' => ?_) | refine vcStepM (by rfl) (fun K' hK' => ?_) | refine vcStepG (by rfl) (by with_unfolding_all rfl) (fun hguard K' hK' => ?_) (fun hguard => ?_) | refine vcStepGD (by rfl) (by with_unfolding_all rfl) (fun hguard K' hK' => ?_) (fun hguard => ?_) | refine vcStepGM (by rfl) (by with_unfolding_all rfl) (fun hguard K' hK' => ?_) (fun hguard => ?_)) <;> ((try (replace hguard := hguard; (try simp only [decide_eq_true_eq, decide_eq_false_iff_not, Bool.not_eq_true', Bool.not_eq_false', Bool.not_true, Bool.not_false, Int.not_lt, Int.not_le, reduceCtorEq, Bool.true_eq_false, Bool.false_eq_true] at hguard); (try (exfalso; (try clear hK'); (try clear hK); omega)))) <;> ((try (simp +contextual only [go_sem, hltI, e1, iRows_len, Int.toNat_natCast, Nat.mul_one, iC_set, iC_len, hBl])); (repeat' (first | ((with_reducible refine hK' _ _ ?_); clear hK'; clear K') | (with_reducible refine And.intro ?_ ?_) | ((with_reducible intro hpath); try first | (exfalso; (try clear hK'); (try clear hK); omega) | (exact absurd hpath (by assumption))) | ((with_reducible first | refine gi1 ?_ | refine gi2 ?_ | refine gn1 ?_ | refine gn2 ?_ | refine gi3 ?_ | refine gn3 ?_ | refine gnot ?_); omega) | (with_reducible exact True.intro) | ((refine hK' _ _ ?_); clear hK'; clear K'))); (try simp only [aput, List.set_cons_succ, List.set_cons_zero, List.length_cons, List.length_nil, List.length_append, List.cons_append, List.nil_append, Nat.reduceAdd, List.append_nil]))))
        | (with_reducible refine AWp.seq ?_)
        | (with_reducible refine AWp.block ?_)
        | (with_reducible refine AWp.skip ?_)
        | (with_reducible refine AWp.ret ?_)
        | (with_reducible refine AWp.exit ?_)
        | (refine AWp.cond _ rfl (fun hcond => ?_) (fun hcond => ?_) <;> first | (simp only [reduceCtorEq, Bool.true_eq_false, Bool.false_eq_true] at hcond; done) | (simp only [decide_eq_true_eq, decide_eq_false_iff_not, Bool.not_eq_true', Bool.not_eq_false', Int.not_lt, Int.not_le] at hcond; try (exfalso; omega)) | skip)
        | (with_reducible refine AThen.n ?_)
        | (with_reducible refine AThen.r ?_)
        | (with_reducible refine AThen.e ?_)
        | (with_reducible refine AInBlock.n ?_)
        | (with_reducible refine AInBlock.r ?_)
        | (with_reducible refine AInBlock.hit ?_)
        | (with_reducible refine AInBlock.miss (by with_unfolding_all decide) ?_))
      refine ⟨i + 1, Weak.head2 (m := 3) (by omega) ((fun t f => [f, t, t, f, t, t, t, t, f, f, f, f, f, f, f, f, f, f, f, f, f, f, f, f, f, f, f, f, f, f, f, f, f, f, f, f, f, f, f, f, f, f, f, f, f, f, t, t, t, f, f, f, f, f, f, f, f, f, f, f, f, f, f, f, f, f, f, f, f, f, f, f, f, f, f, f, f, f, f, f, f, f, f, f, f, f, f, f, f, f, f, f, f, f, f, f, f, f, f, f, f, f, f, f, f, f, f, f, f, f, f, f, f, f, f, f, f, f, f, f, f, f, f, f, f, f, f, f, f, f, f, f, f, f, f, f, f, f, f, f, f, f]) true false) (by first | rfl | (simp [mask, hB]; done) | (simp [mask, hB] <;> simp_all <;> omega)) (by first | rfl | (simp [mask, hB]; done) | (simp [mask, hB] <;> simp_all <;> omega)) (by (repeat' (first | exact valsIn_nil _ | exact blksIn_nil _ | exact cellsIn_nil _ | refine And.intro ?_ ?_ | refine valsIn_cons ?_ ?_ | refine blksIn_cons ?_ ?_ | refine cellsIn_cons ?_ ?_ | exact True.intro | (show _ < _; omega) | exact cellsIn_map (fun _ => True.intro) | (intro c hc; cases hc; done) | (intro c hc; simp only [List.mem_cons, List.not_mem_nil, or_false] at hc; subst hc; exact True.intro)))), ?_, ?_⟩
      · exact hlt
      · omega
    · have ei : i = n := by omega
      subst ei
      have hnl : ¬ ((i : Int) < i) := by omega
      have hBl := backN_len l i i
      generalize backN l i i = B at *
      refine AWp.freezeR 7 2 1 i i rfl rfl (iC_trees B) (iRows B) (by rw [iRows_len]; exact hBl) (Nat.le_refl _) (fun r hr => iRows_k' hr) (iRows_pre B) ?_
      simp only [List.set_cons_succ, List.set_cons_zero]
      repeat' (first
        | (with_reducible refine AWp.seq_region (fun K hK => ?_))
        | (with_reducible refine AWp.last_region (fun K hK => ?_))
        | (with_reducible refine AWp.seq_draw (by with_unfolding_all kernel_rfl) (fun K hK => ?_))
        | (with_reducible refine AWp.last_draw (by with_unfolding_all kernel_rfl) (fun K hK => ?_))
        | ((with_reducible first | refine vcEnd ?_ | refine vcEndD ?_ | refine vcEndM ?_); refine hK _ _ ?_; clear hK; clear K)
        | ((with_reducible first | refine vcStepN (by rfl) (by with_unfolding_all rfl) ?_ | refine vcStepND (by rfl) (by with_unfolding_all rfl) ?_ | refine vcStepNM (by rfl) (by with_unfolding_all rfl) ?_); try simp only [aput, List.set_cons_succ, List.set_cons_zero, List.length_cons, List.length_nil, List.length_append, List.cons_append, List.nil_append, Nat.reduceAdd, List.append_nil])
        | ((with_reducible first | refine vcStep (by rfl) (fun K' hK' => ?_) | refine vcStepD (by rfl) (fun K' hK' => ?_) | refine vcStepM (by rfl) (fun K' hK' => ?_) | refine vcStepG (by rfl) (by with_unfolding_all rfl) (fun hguard K' hK' => ?_) (fun hguard => ?_) | refine vcStepGD (by rfl) (by with_unfolding_all rfl) (fun hguard K' hK' => ?_) (fun hguard => ?_) | refine vcStepGM (by rfl) (by with_unfolding_all rfl) (fun hguard K' hK' => ?_) (fun hguard => ?_)) <;> ((try (replace hguard := hguard; (try simp only [decide_eq_true_eq, decide_eq_false_iff_not, Bool.not_eq_true', Bool.not_eq_false', Bool.not_true, Bool.not_false, Int.not_lt, Int.not_le, reduceCtorEq, Bool.true_eq_false, Bool.false_eq_true] at hguard); (try (exfalso; (try clear hK'); (try clear hK); omega)))) <;> ((try (simp +contextual only [go_sem, hnl, iRows_len, hlI, hlen])); (repeat' (first | ((with_reducible refine hK' _ _ ?_); clear hK'; clear K') | ((with_reducible first | refine ⟨_, _, ACall.h (hRel2) (by with_unfolding_all rfl), ?_⟩ | refine ⟨_, ACall.h (hRel2) (by with_unfolding_all rfl), ?_⟩ | refine ⟨_, _, ACall.hb (hRel2) (by with_unfolding_all rfl) (by with_unfolding_all rfl), ?_⟩ | refine ⟨_, ACall.hb (hRel2) (by with_unfolding_all rfl) (by with_unfolding_all rfl), ?_⟩ | refine ⟨_, _, ACall.h (hZg) (by with_unfolding_all rfl), ?_⟩ | refine ⟨_, ACall.h (hZg) (by with_unfolding_all rfl), ?_⟩ | refine ⟨_, _, ACall.hb (hZg) (by with_unfolding_all rfl) (by with_unfolding_all rfl), ?_⟩ | refine ⟨_, ACall.hb (hZg) (by with_unfolding_all rfl) (by with_unfolding_all rfl), ?_⟩ | refine ⟨_, _, ACall.h (hZh) (by with_unfolding_all rfl), ?_⟩ | refine ⟨_, ACall.h (hZh) (by with_unfolding_all rfl), ?_⟩ | refine ⟨_, _, ACall.hb (hZh) (by with_unfolding_all rfl) (by with_unfolding_all rfl), ?_⟩ | refine ⟨_, ACall.hb (hZh) (by with_unfolding_all rfl) (by with_unfolding_all rfl), ?_⟩ | refine ⟨_, _, ACall.h (hUg) (by with_unfolding_all rfl), ?_⟩ | refine ⟨_, ACall.h (hUg) (by with_unfolding_all rfl), ?_⟩ | refine ⟨_, _, ACall.hb (hUg) (by with_unfolding_all rfl) (by with_unfolding_all rfl), ?_⟩ | refine ⟨_, ACall.hb (hUg) (by with_unfolding_all rfl) (by with_unfolding_all rfl), ?_⟩ | refine ⟨_, _, ACall.h (hUh) (by with_unfolding_all rfl), ?_⟩ | refine ⟨_, ACall.h (hUh) (by with_unfolding_all rfl), ?_⟩ | refine ⟨_, _, ACall.hb (hUh) (by with_unfolding_all rfl) (by with_unfolding_all rfl), ?_⟩ | refine ⟨_, ACall.hb (hUh) (by with_unfolding_all rfl) (by with_unfolding_all rfl), ?_⟩ | refine ⟨_, _, ACall.h (hSa) (by with_unfolding_all rfl), ?_⟩ | refine ⟨_, ACall.h (hSa) (by with_unfolding_all rfl), ?_⟩ | refine ⟨_, _, ACall.hb (hSa) (by with_unfolding_all rfl) (by with_unfolding_all rfl), ?_⟩ | refine ⟨_, ACall.hb (hSa) (by with_unfolding_all rfl) (by with_unfolding_all rfl), ?_⟩); (try simp +contextual only [go_sem, hnl, iRows_len, hlI, hlen])) | (with_reducible refine And.intro ?_ ?_) | ((with_reducible intro hpath); try first | (exfalso; (try clear hK'); (try clear hK); omega) | (exact absurd hpath (by assumption))) | ((with_reducible first | refine gi1 ?_ | refine gi2 ?_ | refine gn1 ?_ | refine gn2 ?_ | refine gi3 ?_ | refine gn3 ?_ | refine gnot ?_); omega) | (with_reducible exact True.intro) | ((refine hK' _ _ ?_); clear hK'; clear K'))); (try simp only [aput, List.set_cons_succ, List.set_cons_zero, List.length_cons, List.length_nil, List.length_append, List.cons_append, List.nil_append, Nat.reduceAdd, List.append_nil]))))
        | (with_reducible refine AWp.seq ?_)
        | (with_reducible refine AWp.block ?_)
        | (with_reducible refine AWp.skip ?_)
        | (with_reducible refine AWp.ret ?_)
        | (with_reducible refine AWp.exit ?_)
        | (refine AWp.cond _ rfl (fun hcond => ?_) (fun hcond => ?_) <;> first | (simp only [reduceCtorEq, Bool.true_eq_false, Bool.false_eq_true] at hcond; done) | (simp only [decide_eq_true_eq, decide_eq_false_iff_not, Bool.not_eq_true', Bool.not_eq_false', Int.not_lt, Int.not_le] at hcond; try (exfalso; omega)) | skip)
        | (with_reducible refine AThen.n ?_)
        | (with_reducible refine AThen.r ?_)
        | (with_reducible refine AThen.e ?_)
        | (with_reducible refine AInBlock.n ?_)
        | (with_reducible refine AInBlock.r ?_)
        | (with_reducible refine AInBlock.hit ?_)
        | (with_reducible refine AInBlock.miss (by with_unfolding_all decide) ?_))
      refine AWp.loopx (α := Nat) (fun v => (⟨.c .any :: .c .any :: .c (.ptr 0 0) :: .c .any :: .c (.bool false) :: .c (.ptr 1 0) :: .c .any :: .c .any :: .c .any :: .c .any :: .c .any :: .c .any :: .c .any :: .c .any :: .c .any :: .c .any :: .c .any :: .c .any :: .c .any :: .c .any :: .c .any :: .c .any :: .c .any :: .c .any :: .c .any :: .c .any :: .c .any :: .c .any :: .c .any :: .c .any :: .c .any :: .c .any :: .c .any :: .c .any :: .c .any :: .c .any :: .c .any :: .c .any :: .c .any :: .c .any :: .c .any :: .c .any :: .c .any :: .c .any :: .c .any :: .c .any :: .c .any :: .c .any :: .c .any :: .c .any :: .c .any :: .c .any :: .c .any :: .c .any :: .c .any :: .c .any :: .c .any :: .c .any :: .c .any :: .c .any :: .c .any :: .c .any :: .c .any :: .c .any :: .c .any :: .c .any :: .c .any :: .c .any :: .c .any :: .c .any :: .c .any :: .c .any :: .c .any :: .c .any :: .c .any :: .c .any :: .c .any :: .c .any :: .c .any :: .c .any :: .c .any :: .c .any :: .c .any :: .c .any :: .c .any :: .c .any :: .c .any :: .c .any :: .c .any :: .c .any :: .c .any :: .c .any :: .c .any :: .c .any :: .c .any :: .c .any :: .c .any :: .c .any :: .c .any :: .c .any :: .c .any :: .c .any :: .c .any :: .c .any :: .c .any :: .c .any :: .c .any :: .c .any :: .c .any :: .c .any :: .c .any :: .c .any :: .c (.slice (iRows l) .none) :: .c (.int .i64 (i : Int)) :: .c (.int .i64 (v : Int)) :: .c .any :: .c .any :: .c .any :: .c .any :: .c .any :: .c .any :: .c .any :: .c .any :: .c .any :: .c .any :: .c .any :: .c .any :: .c .any :: .c .any :: .c .any :: .c .any :: .c .any :: .c .any :: .c .any :: .c .any :: .c .any :: .c .any :: .c .any :: .c .any :: .c .any :: .c .any :: .c .any :: [], [.box [.int .i64 (i : Int), .slice (eRows es) .none], .box [.int .i64 h.n, .slice (eRows h.es) .none]]⟩ : St)) (fun v => v ≤ i) (fun v => i - v) (0) (Weak.head2 (m := 2) (by omega) ((fun t f => [f, f, t, f, t, t, f, f, f, f, f, f, f, f, f, f, f, f, f, f, f, f, f, f, f, f, f, f, f, f, f, f, f, f, f, f, f, f, f, f, f, f, f, f, f, f, f, f, f, f, f, f, f, f, f, f, f, f, f, f, f, f, f, f, f, f, f, f, f, f, f, f, f, f, f, f, f, f, f, f, f, f, f, f, f, f, f, f, f, f, f, f, f, f, f, f, f, f, f, f, f, f, f, f, f, f, f, f, f, f, f, f, t, t, t, f, f, f, f, f, f, f, f, f, f, f, f, f, f, f, f, f, f, f, f, f, f, f, f, f, f, f]) true false) (by first | rfl | (simp [mask]; done) | (simp [mask] <;> omega)) (by first | rfl | (simp; done) | (simp <;> omega)) (by (repeat' (first | exact valsIn_nil _ | exact blksIn_nil _ | exact cellsIn_nil _ | refine And.intro ?_ ?_ | refine valsIn_cons ?_ ?_ | refine blksIn_cons ?_ ?_ | refine cellsIn_cons ?_ ?_ | exact True.intro | (show _ < _; omega) | exact cellsIn_map (fun _ => True.intro) | (intro c hc; cases hc; done) | (intro c hc; simp only [List.mem_cons, List.not_mem_nil, or_false] at hc; subst hc; exact True.intro))))) ?_ (fun v hI => ?_)
      · exact Nat.zero_le _
      · have hv : v ≤ i := hI
        clear hI
        by_cases hltv : v < i
        · have hltI : (v : Int) < i := by omega
          have e0 := piF_get (l := l) (v := v) (by omega)
          rw [Int.toNat_natCast] at e0
          have e1 := iRows_get e0
          have hd1 := hDg v hltv
          have hd2 := hDh v hltv
          generalize piF l v = u at *
          generalize degL v (endsL es) = d at *
          repeat' (first
            | (with_reducible refine AWp.seq_region (fun K hK => ?_))
            | (with_reducible refine AWp.last_region (fun K hK => ?_))
            | (with_reducible refine AWp.seq_draw (by with_unfolding_all kernel_rfl) (fun K hK => ?_))
            | (with_reducible refine AWp.last_draw (by with_unfolding_all kernel_rfl) (fun K hK => ?_))
            | ((with_reducible first | refine vcEnd ?_ | refine vcEndD ?_ | refine vcEndM ?_); refine hK _ _ ?_; clear hK; clear K)
            | ((with_reducible first | refine vcStepN (by rfl) (by with_unfolding_all rfl) ?_ | refine vcStepND (by rfl) (by with_unfolding_all rfl) ?_ | refine vcStepNM (by rfl) (by with_unfolding_all rfl) ?_); try simp only [aput, List.set_cons_succ, List.set_cons_zero, List.length_cons, List.length_nil, List.length_append, List.cons_append, List.nil_append, Nat.reduceAdd, List.append_nil])
            | ((with_reducible first | refine vcStep (by rfl) (fun K' hK' => ?_) | refine vcStepD (by rfl) (fun K' hK' => ?_) | refine vcStepM (by rfl) (fun K' hK' => ?_) | refine vcStepG (by rfl) (by with_unfolding_all rfl) (fun hguard K' hK' => ?_) (fun hguard => ?_) | refine vcStepGD (by rfl) (by with_unfolding_all rfl) (fun hguard K' hK' => ?_) (fun hguard => ?_) | refine vcStepGM (by rfl) (by with_unfolding_all rfl) (fun hguard K' hK' => ?_) (fun hguard => ?_)) <;> ((try (replace hguard := hguard; (try simp only [decide_eq_true_eq, decide_eq_false_iff_not, Bool.not_eq_true', Bool.not_eq_false', Bool.not_true, Bool.not_false, Int.not_lt, Int.not_le, reduceCtorEq, Bool.true_eq_false, Bool.false_eq_true] at hguard); (try (exfalso; (try clear hK'); (try clear hK); omega)))) <;> ((try (simp +contextual only [go_sem, hltI, e1, Int.toNat_natCast])); (repeat' (first | ((with_reducible refine hK' _ _ ?_); clear hK'; clear K') | ((with_reducible first | refine ⟨_, _, ACall.h (hd1) (by with_unfolding_all rfl), ?_⟩ | refine ⟨_, ACall.h (hd1) (by with_unfolding_all rfl), ?_⟩ | refine ⟨_, _, ACall.hb (hd1) (by with_unfolding_all rfl) (by with_unfolding_all rfl), ?_⟩ | refine ⟨_, ACall.hb (hd1) (by with_unfolding_all rfl) (by with_unfolding_all rfl), ?_⟩ | refine ⟨_, _, ACall.h (hd2) (by with_unfolding_all rfl), ?_⟩ | refine ⟨_, ACall.h (hd2) (by with_unfolding_all rfl), ?_⟩ | refine ⟨_, _, ACall.hb (hd2) (by with_unfolding_all rfl) (by with_unfolding_all rfl), ?_⟩ | refine ⟨_, ACall.hb (hd2) (by with_unfolding_all rfl) (by with_unfolding_all rfl), ?_⟩); (try simp +contextual only [go_sem, hltI, e1, Int.toNat_natCast])) | (with_reducible refine And.intro ?_ ?_) | ((with_reducible intro hpath); try first | (exfalso; (try clear hK'); (try clear hK); omega) | (exact absurd hpath (by assumption))) | ((with_reducible first | refine gi1 ?_ | refine gi2 ?_ | refine gn1 ?_ | refine gn2 ?_ | refine gi3 ?_ | refine gn3 ?_ | refine gnot ?_); omega) | (with_reducible exact True.intro) | ((refine hK' _ _ ?_); clear hK'; clear K'))); (try simp only [aput, List.set_cons_succ, List.set_cons_zero, List.length_cons, List.length_nil, List.length_append, List.cons_append, List.nil_append, Nat.reduceAdd, List.append_nil]))))
            | (with_reducible refine AWp.seq ?_)
            | (with_reducible refine AWp.block ?_)
            | (with_reducible refine AWp.skip ?_)
            | (with_reducible refine AWp.ret ?_)
            | (with_reducible refine AWp.exit ?_)
            | (refine AWp.cond _ rfl (fun hcond => ?_) (fun hcond => ?_) <;> first | (simp only [reduceCtorEq, Bool.true_eq_false, Bool.false_eq_true] at hcond; done) | (simp only [decide_eq_true_eq, decide_eq_false_iff_not, Bool.not_eq_true', Bool.not_eq_false', Int.not_lt, Int.not_le] at hcond; try (exfalso; omega)) | skip)
            | (with_reducible refine AThen.n ?_)
            | (with_reducible refine AThen.r ?_)
            | (with_reducible refine AThen.e ?_)
            | (with_reducible refine AInBlock.n ?_)
            | (with_reducible refine AInBlock.r ?_)
            | (with_reducible refine AInBlock.hit ?_)
            | (with_reducible refine AInBlock.miss (by with_unfolding_all decide) ?_))
          refine ⟨v + 1, Weak.head2 (m := 2) (by omega) ((fun t f => [f, f, t, f, t, t, f, f, f, f, f, f, f, f, f, f, f, f, f, f, f, f, f, f, f, f, f, f, f, f, f, f, f, f, f, f, f, f, f, f, f, f, f, f, f, f, f, f, f, f, f, f, f, f, f, f, f, f, f, f, f, f, f, f, f, f, f, f, f, f, f, f, f, f, f, f, f, f, f, f, f, f, f, f, f, f, f, f, f, f, f, f, f, f, f, f, f, f, f, f, f, f, f, f, f, f, f, f, f, f, f, f, t, t, t, f, f, f, f, f, f, f, f, f, f, f, f, f, f, f, f, f, f, f, f, f, f, f, f, f, f, f]) true false) (by first | rfl | (simp [mask]; done) | (simp [mask] <;> simp_all <;> omega)) (by first | rfl | (simp [mask]; done) | (simp [mask] <;> simp_all <;> omega)) (by (repeat' (first | exact valsIn_nil _ | exact blksIn_nil _ | exact cellsIn_nil _ | refine And.intro ?_ ?_ | refine valsIn_cons ?_ ?_ | refine blksIn_cons ?_ ?_ | refine cellsIn_cons ?_ ?_ | exact True.intro | (show _ < _; omega) | exact cellsIn_map (fun _ => True.intro) | (intro c hc; cases hc; done) | (intro c hc; simp only [List.mem_cons, List.not_mem_nil, or_false] at hc; subst hc; exact True.intro)))), ?_, ?_⟩
          · exact hltv
          · omega
        · have ev : v = i := by omega
          subst ev
          repeat' (first
            | (with_reducible refine AWp.seq_region (fun K hK => ?_))
            | (with_reducible refine AWp.last_region (fun K hK => ?_))
            | (with_reducible refine AWp.seq_draw (by with_unfolding_all kernel_rfl) (fun K hK => ?_))
            | (with_reducible refine AWp.last_draw (by with_unfolding_all kernel_rfl) (fun K hK => ?_))
            | ((with_reducible first | refine vcEnd ?_ | refine vcEndD ?_ | refine vcEndM ?_); refine hK _ _ ?_; clear hK; clear K)
            | ((with_reducible first | refine vcStepN (by rfl) (by with_unfolding_all rfl) ?_ | refine vcStepND (by rfl) (by with_unfolding_all rfl) ?_ | refine vcStepNM (by rfl) (by with_unfolding_all rfl) ?_); try simp only [aput, List.set_cons_succ, List.set_cons_zero, List.length_cons, List.length_nil, List.length_append, List.cons_append, List.nil_append, Nat.reduceAdd, List.append_nil])
            | ((with_reducible first | refine vcStep (by rfl) (fun K' hK' => ?_) | refine vcStepD (by rfl) (fun K' hK' => ?_) | refine vcStepM (by rfl) (fun K' hK' => ?_) | refine vcStepG (by rfl) (by with_unfolding_all rfl) (fun hguard K' hK' => ?_) (fun hguard => ?_) | refine vcStepGD (by rfl) (by with_unfolding_all rfl) (fun hguard K' hK' => ?_) (fun hguard => ?_) | refine vcStepGM (by rfl) (by with_unfolding_all rfl) (fun hguard K' hK' => ?_) (fun hguard => ?_)) <;> ((try (replace hguard := hguard; (try simp only [decide_eq_true_eq, decide_eq_false_iff_not, Bool.not_eq_true', Bool.not_eq_false', Bool.not_true, Bool.not_false, Int.not_lt, Int.not_le, reduceCtorEq, Bool.true_eq_false, Bool.false_eq_true] at hguard); (try (exfalso; (try clear hK'); (try clear hK); omega)))) <;> ((try (simp +contextual only [go_sem, hnl])); (repeat' (first | ((with_reducible refine hK' _ _ ?_); clear hK'; clear K') | ((with_reducible first | refine ⟨_, _, ACall.h (awake_ok) (by with_unfolding_all rfl), ?_⟩ | refine ⟨_, ACall.h (awake_ok) (by with_unfolding_all rfl), ?_⟩ | refine ⟨_, _, ACall.hb (awake_ok) (by with_unfolding_all rfl) (by with_unfolding_all rfl), ?_⟩ | refine ⟨_, ACall.hb (awake_ok) (by with_unfolding_all rfl) (by with_unfolding_all rfl), ?_⟩); (try simp +contextual only [go_sem, hnl])) | (with_reducible refine And.intro ?_ ?_) | ((with_reducible intro hpath); try first | (exfalso; (try clear hK'); (try clear hK); omega) | (exact absurd hpath (by assumption))) | ((with_reducible first | refine gi1 ?_ | refine gi2 ?_ | refine gn1 ?_ | refine gn2 ?_ | refine gi3 ?_ | refine gn3 ?_ | refine gnot ?_); omega) | (with_reducible exact True.intro) | ((refine hK' _ _ ?_); clear hK'; clear K'))); (try simp only [aput, List.set_cons_succ, List.set_cons_zero, List.length_cons, List.length_nil, List.length_append, List.cons_append, List.nil_append, Nat.reduceAdd, List.append_nil]))))
            | (with_reducible refine AWp.seq ?_)
            | (with_reducible refine AWp.block ?_)
            | (with_reducible refine AWp.skip ?_)
            | (with_reducible refine AWp.ret ?_)
            | (with_reducible refine AWp.exit ?_)
            | (refine AWp.cond _ rfl (fun hcond => ?_) (fun hcond => ?_) <;> first | (simp only [reduceCtorEq, Bool.true_eq_false, Bool.false_eq_true] at hcond; done) | (simp only [decide_eq_true_eq, decide_eq_false_iff_not, Bool.not_eq_true', Bool.not_eq_false', Int.not_lt, Int.not_le] at hcond; try (exfalso; omega)) | skip)
            | (with_reducible refine AThen.n ?_)
            | (with_reducible refine AThen.r ?_)
            | (with_reducible refine AThen.e ?_)
            | (with_reducible refine AInBlock.n ?_)
            | (with_reducible refine AInBlock.r ?_)
            | (with_reducible refine AInBlock.hit ?_)
            | (with_reducible refine AInBlock.miss (by with_unfolding_all decide) ?_))
          simp [Rets, aret, Blk.cells, ty, Try.results8, ares, toT1, toT, borrow, borrow0, capCell, toTree0, tbool]
end Go.Proofs.Ytbdpkgckdkpepaa
