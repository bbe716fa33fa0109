/- A part of the proof: contracts of functions of the program, or plain lemmas. -/
import Derived.Test.YtbdpkgckdkpepaaG37
import Derived.Test.YtbdpkgckdkpepaaLayerC
set_option linter.all false
namespace Go.Proofs.Ytbdpkgckdkpepaa
open Go.Sp
set_option linter.unusedSimpArgs false
set_option linter.unusedVariables false
set_option maxHeartbeats 4000000
set_option maxRecDepth 100000



def iC (B : List Int) : List ACell := B.map fun x => ACell.int .i64 x
theorem iC_len (B : List Int) : (iC B).length = B.length := by simp [iC]
theorem iC_set (B : List Int) (i : Nat) (x : Int) : (iC B).set i (.int .i64 x) = iC (B.set i x) := by simp [iC, List.map_set]
theorem made_ints (n : Nat) : madeA [ACell.int .i64 0] n = iC (List.replicate n 0) := by simp [madeA, iC]
theorem iC_trees (B : List Int) : (iC B).mapM toTree0 = some (B.map fun x => Tree.int .i64 x) := by
  induction B with
  | nil => rfl
  | cons x xs ih => simp only [iC, List.map_cons, List.mapM_cons] at ih ⊢; rw [ih]; rfl
theorem iRows_pre (B : List Int) (i : Nat) (r : List Tree) (m : Nat) (x : Tree) (h1 : (iRows B)[i]? = some r) (h2 : r[m]? = some x) : (B.map fun x => Tree.int .i64 x)[i * 1 + m]? = some x := by
  simp only [iRows, List.getElem?_map] at h1
  cases hb : B[i]? with
  | none => rw [hb] at h1; simp at h1
  | some b =>
    rw [hb] at h1
    simp at h1
    subst h1
    cases m with
    | zero => simp at h2; simp [hb, h2]
    | succ m => simp at h2
def refsT (base n i : Nat) : List (List ACap) := (List.range i).map fun j => [.ref (j + base) 1 0 n n]
theorem refsT_succ (base n i : Nat) : refsT base n (i + 1) = refsT base n i ++ [[.ref (i + base) 1 0 n n]] := by simp [refsT, List.range_succ]
theorem refsT_len (base n i : Nat) : (refsT base n i).length = i := by simp [refsT]
theorem refsT_k {base n i : Nat} {r : List ACap} (h : r ∈ refsT base n i) : r.length = 1 := by obtain ⟨j, _, rfl⟩ := List.mem_map.1 h; rfl
theorem refsT_in {base n i m : Nat} (hm : i + base ≤ m) : ∀ r, r ∈ refsT base n i → ∀ c, c ∈ r → capIn m c := fun r hr c hc => by
  obtain ⟨j, hj, rfl⟩ := List.mem_map.1 hr
  obtain rfl := List.mem_singleton.1 hc
  have := List.mem_range.1 hj
  show j + base < m
  omega
theorem refsT_get {base n i j : Nat} (h : j < i) : (refsT base n i)[j]? = some [.ref (j + base) 1 0 n n] := by simp [refsT, h]
def rowB (r : List Int) : Blk := .box (iC r)
theorem rowB_in (m : Nat) (r : List Int) : blkIn m (rowB r) := cellsIn_map (fun _ => True.intro)
theorem blksIn_rep {m i : Nat} {r : List Int} : blksIn m (List.replicate i (rowB r)) := fun b hb => by
  rw [(List.mem_replicate.1 hb).2]; exact rowB_in m r
theorem blksIn_tab {m : Nat} {T : List (List Int)} : blksIn m (T.map rowB) := fun b hb => by
  obtain ⟨r, _, rfl⟩ := List.mem_map.1 hb; exact rowB_in m r
theorem rep_snoc {α : Type} (i : Nat) (x : α) : List.replicate i x ++ [x] = List.replicate (i + 1) x := by rw [← List.replicate_succ']
theorem opNe {a b : Nat} (h : a ≠ b) : Operand.tmp a ≠ Operand.tmp b := fun e => h (by cases e; rfl)
theorem Table2_ok (n : Nat) (hn : n ≤ 12) (gn : Int) (es : List E) : ACallH Try.prog 60 [.box [.int .i64 gn, .slice (eRows es) .none], .box [.int .i64 0, .nils]] [.c (.int .i64 (n : Int))] (.box [.int .i64 gn, .slice (eRows es) .none] :: .box [.int .i64 0, .nils] :: .chain n 1 :: List.replicate n (rowB (List.replicate n 0))) (.c (.rows (refsT 3 n n) (.chain 2))) := by
  refine ACallH.of_body Try.func60 rfl (by kernel_rfl) ?_
  simp only [entry, Try.ntmps60, List.length_cons, List.length_nil, Nat.reduceAdd, Nat.reduceSub, List.replicate_succ, List.replicate_zero, List.cons_append, List.nil_append]
  repeat' (first
    | (with_reducible refine AWp.seq_region (fun K hK => ?_))
    | (with_reducible refine AWp.last_region (fun K hK => ?_))
    | (with_reducible refine AWp.seq_draw (by with_unfolding_all kernel_rfl) (fun K hK => ?_))
    | (with_reducible refine AWp.last_draw (by with_unfolding_all kernel_rfl) (fun K hK => ?_))
    | ((with_reducible first | refine vcEnd ?_ | refine vcEndD ?_ | refine vcEndM ?_); refine hK _ _ ?_; clear hK; clear K)
    | ((with_reducible first | refine vcStepN (by rfl) (by with_unfolding_all rfl) ?_ | refine vcStepND (by rfl) (by with_unfolding_all rfl) ?_ | refine vcStepNM (by rfl) (by with_unfolding_all rfl) ?_); try simp only [aput, List.set_cons_succ, List.set_cons_zero, List.length_cons, List.length_nil, List.length_append, List.cons_append, List.nil_append, Nat.reduceAdd, List.append_nil])
    | ((with_reducible first | refine vcStep (by rfl) (fun K' hK' => ?_) | refine vcStepD (by rfl) (fun K' hK' => ?_) | refine vcStepM (by rfl) (fun K' hK' => ?_) | refine vcStepG (by rfl) (by with_unfolding_all rfl) (fun hguard K' hK' => ?_) (fun hguard => ?_) | refine vcStepGD (by rfl) (by with_unfolding_all rfl) (fun hguard K' hK' => ?_) (fun hguard => ?_) | refine vcStepGM (by rfl) (by with_unfolding_all rfl) (fun hguard K' hK' => ?_) (fun hguard => ?_)) <;> ((try (replace hguard := hguard; (try simp only [decide_eq_true_eq, decide_eq_false_iff_not, Bool.not_eq_true', Bool.not_eq_false', Bool.not_true, Bool.not_false, Int.not_lt, Int.not_le, reduceCtorEq, Bool.true_eq_false, Bool.false_eq_true] at hguard); (try (exfalso; (try clear hK'); (try clear hK); omega)))) <;> ((try (simp +contextual only [go_sem])); (repeat' (first | ((with_reducible refine hK' _ _ ?_); clear hK'; clear K') | (with_reducible refine And.intro ?_ ?_) | ((with_reducible intro hpath); try first | (exfalso; (try clear hK'); (try clear hK); omega) | (exact absurd hpath (by assumption))) | ((with_reducible first | refine gi1 ?_ | refine gi2 ?_ | refine gn1 ?_ | refine gn2 ?_ | refine gi3 ?_ | refine gn3 ?_ | refine gnot ?_); omega) | (with_reducible exact True.intro) | ((refine hK' _ _ ?_); clear hK'; clear K'))); (try simp only [aput, List.set_cons_succ, List.set_cons_zero, List.length_cons, List.length_nil, List.length_append, List.cons_append, List.nil_append, Nat.reduceAdd, List.append_nil]))))
    | (with_reducible refine AWp.seq ?_)
    | (with_reducible refine AWp.block ?_)
    | (with_reducible refine AWp.skip ?_)
    | (with_reducible refine AWp.ret ?_)
    | (with_reducible refine AWp.exit ?_)
    | (refine AWp.cond _ rfl (fun hcond => ?_) (fun hcond => ?_) <;> first | (simp only [reduceCtorEq, Bool.true_eq_false, Bool.false_eq_true] at hcond; done) | (simp only [decide_eq_true_eq, decide_eq_false_iff_not, Bool.not_eq_true', Bool.not_eq_false', Int.not_lt, Int.not_le] at hcond; try (exfalso; omega)) | skip)
    | (with_reducible refine AThen.n ?_)
    | (with_reducible refine AThen.r ?_)
    | (with_reducible refine AThen.e ?_)
    | (with_reducible refine AInBlock.n ?_)
    | (with_reducible refine AInBlock.r ?_)
    | (with_reducible refine AInBlock.hit ?_)
    | (with_reducible refine AInBlock.miss (by with_unfolding_all decide) ?_))
  refine AWp.weak (Weak.opens ((fun t f => [f, f, f, t, f, f, f, f, f, f, f, f, f, f, f, f]) true false) 1 (by first | omega | simp)) ?_
  simp only [openS, openV, List.length_cons, List.length_nil, List.length_append, Nat.reduceAdd, List.cons_append, List.nil_append]
  refine AWp.asRows 3 2 rfl ?_
  simp only [List.set_cons_succ, List.set_cons_zero]
  have e0 : refsT 3 n 0 = [] := rfl
  rw [← e0]
  refine AWp.loopx (α := Nat) (fun i => (⟨.c (.int .i64 (n : Int)) :: .c .any :: .c .any :: .c (.rows (refsT 3 n i) (.chain 2)) :: .c (.int .i64 (i : Int)) :: .c .any :: .c .any :: .c .any :: .c .any :: .c .any :: .c .any :: .c .any :: .c .any :: .c .any :: .c .any :: .c .any :: [], .box [.int .i64 gn, .slice (eRows es) .none] :: .box [.int .i64 0, .nils] :: .chain i 1 :: List.replicate i (rowB (List.replicate n 0))⟩ : St)) (fun i => i ≤ n) (fun i => n - i) (0) (Weak.head2 (m := (0) + 3) (by omega) ((fun t f => [t, f, f, t, t, f, f, f, f, f, f, f, f, f, f, f]) true false) (by first | rfl | (simp [mask]; done) | (simp [mask] <;> omega)) (by first | rfl | (simp; done) | (simp <;> omega)) (by (repeat' (first | exact valsIn_nil _ | exact blksIn_nil _ | exact cellsIn_nil _ | refine And.intro ?_ ?_ | refine valsIn_cons ?_ ?_ | refine blksIn_cons ?_ ?_ | refine cellsIn_cons ?_ ?_ | exact True.intro | exact refsT_in (by omega) | exact blksIn_rep | exact blksIn_tab | (show _ < _; omega) | exact cellsIn_map (fun _ => True.intro) | (intro c hc; cases hc; done) | (intro c hc; simp only [List.mem_cons, List.not_mem_nil, or_false] at hc; subst hc; exact True.intro))))) ?_ (fun i hI => ?_)
  · exact Nat.zero_le _
  · have hi : i ≤ n := hI
    clear hI
    by_cases hlt : i < n
    · have hltI : (i : Int) < n := by omega
      have hT : refsT 3 n (i + 1) = refsT 3 n i ++ [[.ref (i + 1 + 1 + 1) 1 0 n n]] := refsT_succ 3 n i
      have hrb : Blk.box (iC (List.replicate n 0)) = rowB (List.replicate n 0) := rfl
      have hrs := rep_snoc i (rowB (List.replicate n 0))
      repeat' (first
        | (with_reducible refine AWp.seq_region (fun K hK => ?_))
        | (with_reducible refine AWp.last_region (fun K hK => ?_))
        | (with_reducible refine AWp.seq_draw (by with_unfolding_all kernel_rfl) (fun K hK => ?_))
        | (with_reducible refine AWp.last_draw (by with_unfolding_all kernel_rfl) (fun K hK => ?_))
        | ((with_reducible first | refine vcEnd ?_ | refine vcEndD ?_ | refine vcEndM ?_); refine hK _ _ ?_; clear hK; clear K)
        | ((with_reducible first | refine vcStepN (by rfl) (by with_unfolding_all rfl) ?_ | refine vcStepND (by rfl) (by with_unfolding_all rfl) ?_ | refine vcStepNM (by rfl) (by with_unfolding_all rfl) ?_); try simp only [aput, List.set_cons_succ, List.set_cons_zero, List.length_cons, List.length_nil, List.length_append, List.cons_append, List.nil_append, Nat.reduceAdd, List.append_nil])
        | ((with_reducible first | refine vcStep (by rfl) (fun K' hK' => ?_) | refine vcStepD (by rfl) (fun K' hK' => ?_) | refine vcStepM (by rfl) (fun K' hK' => ?_) | refine vcStepG (by rfl) (by with_unfolding_all rfl) (fun hguard K' hK' => ?_) (fun hguard => ?_) | refine vcStepGD (by rfl) (by with_unfolding_all rfl) (fun hguard K' hK' => ?_) (fun hguard => ?_) | refine vcStepGM (by rfl) (by with_unfolding_all rfl) (fun hguard K' hK' => ?_) (fun hguard => ?_)) <;> ((try (replace hguard := hguard; (try simp only [decide_eq_true_eq, decide_eq_false_iff_not, Bool.not_eq_true', Bool.not_eq_false', Bool.not_true, Bool.not_false, Int.not_lt, Int.not_le, reduceCtorEq, Bool.true_eq_false, Bool.false_eq_true] at hguard); (try (exfalso; (try clear hK'); (try clear hK); omega)))) <;> ((try (simp +contextual only [go_sem, hltI, made_ints, Int.toNat_natCast, hrb, hrs, List.length_replicate, refsT_len])); (repeat' (first | ((with_reducible refine hK' _ _ ?_); clear hK'; clear K') | (with_reducible exact refsT_k (by assumption)) | (exact opNe (by decide)) | (with_reducible refine And.intro ?_ ?_) | ((with_reducible intro hpath); try first | (exfalso; (try clear hK'); (try clear hK); omega) | (exact absurd hpath (by assumption))) | ((with_reducible first | refine gi1 ?_ | refine gi2 ?_ | refine gn1 ?_ | refine gn2 ?_ | refine gi3 ?_ | refine gn3 ?_ | refine gnot ?_); omega) | (with_reducible exact True.intro) | ((refine hK' _ _ ?_); clear hK'; clear K'))); (try simp only [aput, List.set_cons_succ, List.set_cons_zero, List.length_cons, List.length_nil, List.length_append, List.cons_append, List.nil_append, Nat.reduceAdd, List.append_nil]))))
        | (with_reducible refine AWp.seq ?_)
        | (with_reducible refine AWp.block ?_)
        | (with_reducible refine AWp.skip ?_)
        | (with_reducible refine AWp.ret ?_)
        | (with_reducible refine AWp.exit ?_)
        | (refine AWp.cond _ rfl (fun hcond => ?_) (fun hcond => ?_) <;> first | (simp only [reduceCtorEq, Bool.true_eq_false, Bool.false_eq_true] at hcond; done) | (simp only [decide_eq_true_eq, decide_eq_false_iff_not, Bool.not_eq_true', Bool.not_eq_false', Int.not_lt, Int.not_le] at hcond; try (exfalso; omega)) | skip)
        | (with_reducible refine AThen.n ?_)
        | (with_reducible refine AThen.r ?_)
        | (with_reducible refine AThen.e ?_)
        | (with_reducible refine AInBlock.n ?_)
        | (with_reducible refine AInBlock.r ?_)
        | (with_reducible refine AInBlock.hit ?_)
        | (with_reducible refine AInBlock.miss (by with_unfolding_all decide) ?_))
      refine ⟨i + 1, Weak.head2 (m := (i + 1) + 3) (by omega) ((fun t f => [t, f, f, t, t, f, f, f, f, f, f, f, f, f, f, f]) true false) (by first | rfl | (simp [mask, hT, List.replicate_succ]; done) | (simp [mask, hT, List.replicate_succ] <;> simp_all <;> omega)) (by first | rfl | (simp [mask, hT, List.replicate_succ]; done) | (simp [mask, hT, List.replicate_succ] <;> simp_all <;> omega)) (by (repeat' (first | exact valsIn_nil _ | exact blksIn_nil _ | exact cellsIn_nil _ | refine And.intro ?_ ?_ | refine valsIn_cons ?_ ?_ | refine blksIn_cons ?_ ?_ | refine cellsIn_cons ?_ ?_ | exact True.intro | exact refsT_in (by omega) | exact blksIn_rep | exact blksIn_tab | (show _ < _; omega) | exact cellsIn_map (fun _ => True.intro) | (intro c hc; cases hc; done) | (intro c hc; simp only [List.mem_cons, List.not_mem_nil, or_false] at hc; subst hc; exact True.intro)))), ?_, ?_⟩
      · exact hlt
      · omega
    · have ei : i = n := by omega
      subst ei
      have hnl : ¬ ((i : Int) < i) := by omega
      repeat' (first
        | (with_reducible refine AWp.seq_region (fun K hK => ?_))
        | (with_reducible refine AWp.last_region (fun K hK => ?_))
        | (with_reducible refine AWp.seq_draw (by with_unfolding_all kernel_rfl) (fun K hK => ?_))
        | (with_reducible refine AWp.last_draw (by with_unfolding_all kernel_rfl) (fun K hK => ?_))
        | ((with_reducible first | refine vcEnd ?_ | refine vcEndD ?_ | refine vcEndM ?_); refine hK _ _ ?_; clear hK; clear K)
        | ((with_reducible first | refine vcStepN (by rfl) (by with_unfolding_all rfl) ?_ | refine vcStepND (by rfl) (by with_unfolding_all rfl) ?_ | refine vcStepNM (by rfl) (by with_unfolding_all rfl) ?_); try simp only [aput, List.set_cons_succ, List.set_cons_zero, List.length_cons, List.length_nil, List.length_append, List.cons_append, List.nil_append, Nat.reduceAdd, List.append_nil])
        | ((with_reducible first | refine vcStep (by rfl) (fun K' hK' => ?_) | refine vcStepD (by rfl) (fun K' hK' => ?_) | refine vcStepM (by rfl) (fun K' hK' => ?_) | refine vcStepG (by rfl) (by with_unfolding_all rfl) (fun hguard K' hK' => ?_) (fun hguard => ?_) | refine vcStepGD (by rfl) (by with_unfolding_all rfl) (fun hguard K' hK' => ?_) (fun hguard => ?_) | refine vcStepGM (by rfl) (by with_unfolding_all rfl) (fun hguard K' hK' => ?_) (fun hguard => ?_)) <;> ((try (replace hguard := hguard; (try simp only [decide_eq_true_eq, decide_eq_false_iff_not, Bool.not_eq_true', Bool.not_eq_false', Bool.not_true, Bool.not_false, Int.not_lt, Int.not_le, reduceCtorEq, Bool.true_eq_false, Bool.false_eq_true] at hguard); (try (exfalso; (try clear hK'); (try clear hK); omega)))) <;> ((try (simp +contextual only [go_sem, hnl])); (repeat' (first | ((with_reducible refine hK' _ _ ?_); clear hK'; clear K') | (with_reducible refine And.intro ?_ ?_) | ((with_reducible intro hpath); try first | (exfalso; (try clear hK'); (try clear hK); omega) | (exact absurd hpath (by assumption))) | ((with_reducible first | refine gi1 ?_ | refine gi2 ?_ | refine gn1 ?_ | refine gn2 ?_ | refine gi3 ?_ | refine gn3 ?_ | refine gnot ?_); omega) | (with_reducible exact True.intro) | ((refine hK' _ _ ?_); clear hK'; clear K'))); (try simp only [aput, List.set_cons_succ, List.set_cons_zero, List.length_cons, List.length_nil, List.length_append, List.cons_append, List.nil_append, Nat.reduceAdd, List.append_nil]))))
        | (with_reducible refine AWp.seq ?_)
        | (with_reducible refine AWp.block ?_)
        | (with_reducible refine AWp.skip ?_)
        | (with_reducible refine AWp.ret ?_)
        | (with_reducible refine AWp.exit ?_)
        | (refine AWp.cond _ rfl (fun hcond => ?_) (fun hcond => ?_) <;> first | (simp only [reduceCtorEq, Bool.true_eq_false, Bool.false_eq_true] at hcond; done) | (simp only [decide_eq_true_eq, decide_eq_false_iff_not, Bool.not_eq_true', Bool.not_eq_false', Int.not_lt, Int.not_le] at hcond; try (exfalso; omega)) | skip)
        | (with_reducible refine AThen.n ?_)
        | (with_reducible refine AThen.r ?_)
        | (with_reducible refine AThen.e ?_)
        | (with_reducible refine AInBlock.n ?_)
        | (with_reducible refine AInBlock.r ?_)
        | (with_reducible refine AInBlock.hit ?_)
        | (with_reducible refine AInBlock.miss (by with_unfolding_all decide) ?_))
      simp [RetsH, aretH, ares, noTup, Try.results60]
end Go.Proofs.Ytbdpkgckdkpepaa
