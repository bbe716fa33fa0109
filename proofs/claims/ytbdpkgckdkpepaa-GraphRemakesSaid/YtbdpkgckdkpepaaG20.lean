/- A part of the proof: contracts of functions of the program, or plain lemmas. -/
import Derived.Test.YtbdpkgckdkpepaaG19
import Derived.Test.YtbdpkgckdkpepaaG13
import Derived.Test.YtbdpkgckdkpepaaG15
set_option linter.all false
namespace Go.Proofs.Ytbdpkgckdkpepaa
open Go.Sp
set_option linter.unusedSimpArgs false
set_option linter.unusedVariables false
set_option maxHeartbeats 4000000
set_option maxRecDepth 100000


instance ltE.dec : DecidableRel ltE := fun x y => by unfold ltE; infer_instance
def house : G := ⟨4, [⟨0, 1, 2⟩, ⟨0, 3, 1⟩, ⟨1, 2, 1⟩, ⟨2, 2, 1⟩, ⟨2, 3, 1⟩]⟩
def part : G := ⟨3, [⟨0, 1, 2⟩, ⟨0, 2, 1⟩]⟩
def mk0 : List (Int × Int) := [(3, 2), (1, 0), (2, 2), (0, 1), (0, 3), (2, 1)]
theorem house_check : checkG house = 0 := by decide
theorem make0 : makeE 4 mk0 = (house, 0) := by
  unfold makeE
  rw [if_neg (by decide), if_neg (by decide), if_neg (by decide), if_neg (by decide)]
  have e : sortE (bagL mk0) = house.es := sortE_eq (by decide) (by decide)
  rw [e]; rfl
theorem ind0 : indG house [0, 1, 3] = part ∧ indE house [0, 1, 3] = 0 := by
  have h0 : subG house [0, 1, 3] = 0 := by decide
  have h1 : indE house [0, 1, 3] = 0 := by unfold indE; rw [if_neg (by omega), if_neg (by simp)]
  refine ⟨?_, h1⟩
  unfold indG
  rw [if_neg (by omega)]
  have e : sortE (movL (idxI [0, 1, 3]) house.es) = part.es := sortE_eq (by decide) (by decide)
  rw [e]; rfl
theorem sortI_13 : sortI [1, 3] = [1, 3] := by
  unfold sortI
  exact List.mergeSort_of_pairwise (by decide)
theorem awake_ok : ACall Try.prog 13 [] (tbool true) := by
  have hat : atE house [2] = 0 := by decide
  have hm : ACall Try.prog 23 [tint 4, tpairs mk0] (.tup [tG house, tint 0]) := by have := Make_ok 4 mk0 (by decide); rwa [make0] at this
  have hho : ACall Try.prog 51 [] (tG house) := House_ok
  have hsa : ACall Try.prog 25 [tG house, tG house] (tbool true) := by have := Same_ok house house (by decide) (by decide); simpa using this
  have hsb : ACall Try.prog 25 [tG part, tG part] (tbool true) := by have := Same_ok part part (by decide) (by decide); simpa using this
  have hsi : ACall Try.prog 15 [tG house] (.tup [tint 6, tint 0]) := by have := Size_ok house (by decide); rwa [house_check] at this
  have hge : ACall Try.prog 17 [tG house] (.tup [tint 3, tint 0]) := by have := Genus_ok house (by decide); rwa [house_check, show genL (endsL house.es) = 3 by decide] at this
  have hde : ACall Try.prog 34 [tG house, tint 2] (.tup [tint 4, tint 0]) := by have := Degree_ok house 2 (by decide); rwa [hat, show degL 2 (endsL house.es) = 4 by decide] at this
  have hva : ACall Try.prog 40 [tG house, tint 2] (.tup [tint 2, tint 0]) := by have := Valence_ok house 2 (by decide); rwa [hat, show valL 2 house.es = 2 by decide] at this
  have hne : ACall Try.prog 41 [tG house, tint 2] (.tup [tints [1, 3], tint 0]) := by have := Neighbours_ok house 2 (by decide); rwa [hat, show neiL 2 house.es = [1, 3] by decide, sortI_13] at this
  have hcu : ACall Try.prog 27 [tG house, tints [0, 1]] (.tup [tints [2, 3], tint 0]) := by have := Cut_ok house [0, 1] (by decide) (by decide); rwa [show subG house [0, 1] = 0 by decide, show cutL [0, 1] (endsL house.es) = [2, 3] by decide] at this
  have hin : ACall Try.prog 28 [tG house, tints [0, 1, 3]] (.tup [tG part, tint 0]) := by have := Induced_ok house [0, 1, 3] (by decide) (by decide); rwa [ind0.1, ind0.2] at this
  have he1 : ACall Try.prog 30 [tints [1, 3], tints [1, 3]] (tbool true) := by have := Equal_ok [1, 3] [1, 3] (by decide) (by decide); simpa using this
  have he2 : ACall Try.prog 30 [tints [2, 3], tints [2, 3]] (tbool true) := by have := Equal_ok [2, 3] [2, 3] (by decide) (by decide); simpa using this
  refine ACall.of_body Try.func13 rfl (by kernel_rfl) ?_
  simp only [entry, Try.ntmps13, ofT, ofT1, ofTree, List.map_cons, List.map_nil, List.length_cons, List.length_nil, Nat.reduceAdd, Nat.reduceSub, List.replicate_succ, List.replicate_zero, List.cons_append, List.nil_append]
  repeat' (first
    | (with_reducible refine AWp.seq_region (fun K hK => ?_))
    | (with_reducible refine AWp.last_region (fun K hK => ?_))
    | (with_reducible refine AWp.seq_draw (by with_unfolding_all kernel_rfl) (fun K hK => ?_))
    | (with_reducible refine AWp.last_draw (by with_unfolding_all kernel_rfl) (fun K hK => ?_))
    | ((with_reducible first | refine vcEnd ?_ | refine vcEndD ?_ | refine vcEndM ?_); refine hK _ _ ?_; clear hK; clear K)
    | ((with_reducible first | refine vcStepN (by rfl) (by with_unfolding_all rfl) ?_ | refine vcStepND (by rfl) (by with_unfolding_all rfl) ?_ | refine vcStepNM (by rfl) (by with_unfolding_all rfl) ?_); try simp only [aput, List.set_cons_succ, List.set_cons_zero, List.length_cons, List.length_nil, List.length_append, List.cons_append, List.nil_append, Nat.reduceAdd, List.append_nil])
    | ((with_reducible first | refine vcStep (by rfl) (fun K' hK' => ?_) | refine vcStepD (by rfl) (fun K' hK' => ?_) | refine vcStepM (by rfl) (fun K' hK' => ?_) | refine vcStepG (by rfl) (by with_unfolding_all rfl) (fun hguard K' hK' => ?_) (fun hguard => ?_) | refine vcStepGD (by rfl) (by with_unfolding_all rfl) (fun hguard K' hK' => ?_) (fun hguard => ?_) | refine vcStepGM (by rfl) (by with_unfolding_all rfl) (fun hguard K' hK' => ?_) (fun hguard => ?_)) <;> ((try (replace hguard := hguard; (try simp only [decide_eq_true_eq, decide_eq_false_iff_not, Bool.not_eq_true', Bool.not_eq_false', Bool.not_true, Bool.not_false, Int.not_lt, Int.not_le, reduceCtorEq, Bool.true_eq_false, Bool.false_eq_true] at hguard); (try (exfalso; (try clear hK'); (try clear hK); omega)))) <;> ((try (simp +contextual only [go_sem, chunks, List.range, List.range.loop, Int.reduceAdd, Int.add_zero])); (repeat' (first | ((with_reducible refine hK' _ _ ?_); clear hK'; clear K') | ((with_reducible first | refine ⟨_, _, ACall.h (hm) (by with_unfolding_all rfl), ?_⟩ | refine ⟨_, ACall.h (hm) (by with_unfolding_all rfl), ?_⟩ | refine ⟨_, _, ACall.hb (hm) (by with_unfolding_all rfl) (by with_unfolding_all rfl), ?_⟩ | refine ⟨_, ACall.hb (hm) (by with_unfolding_all rfl) (by with_unfolding_all rfl), ?_⟩ | refine ⟨_, _, ACall.h (hho) (by with_unfolding_all rfl), ?_⟩ | refine ⟨_, ACall.h (hho) (by with_unfolding_all rfl), ?_⟩ | refine ⟨_, _, ACall.hb (hho) (by with_unfolding_all rfl) (by with_unfolding_all rfl), ?_⟩ | refine ⟨_, ACall.hb (hho) (by with_unfolding_all rfl) (by with_unfolding_all rfl), ?_⟩ | refine ⟨_, _, ACall.h (hsa) (by with_unfolding_all rfl), ?_⟩ | refine ⟨_, ACall.h (hsa) (by with_unfolding_all rfl), ?_⟩ | refine ⟨_, _, ACall.hb (hsa) (by with_unfolding_all rfl) (by with_unfolding_all rfl), ?_⟩ | refine ⟨_, ACall.hb (hsa) (by with_unfolding_all rfl) (by with_unfolding_all rfl), ?_⟩ | refine ⟨_, _, ACall.h (hsb) (by with_unfolding_all rfl), ?_⟩ | refine ⟨_, ACall.h (hsb) (by with_unfolding_all rfl), ?_⟩ | refine ⟨_, _, ACall.hb (hsb) (by with_unfolding_all rfl) (by with_unfolding_all rfl), ?_⟩ | refine ⟨_, ACall.hb (hsb) (by with_unfolding_all rfl) (by with_unfolding_all rfl), ?_⟩ | refine ⟨_, _, ACall.h (hsi) (by with_unfolding_all rfl), ?_⟩ | refine ⟨_, ACall.h (hsi) (by with_unfolding_all rfl), ?_⟩ | refine ⟨_, _, ACall.hb (hsi) (by with_unfolding_all rfl) (by with_unfolding_all rfl), ?_⟩ | refine ⟨_, ACall.hb (hsi) (by with_unfolding_all rfl) (by with_unfolding_all rfl), ?_⟩ | refine ⟨_, _, ACall.h (hge) (by with_unfolding_all rfl), ?_⟩ | refine ⟨_, ACall.h (hge) (by with_unfolding_all rfl), ?_⟩ | refine ⟨_, _, ACall.hb (hge) (by with_unfolding_all rfl) (by with_unfolding_all rfl), ?_⟩ | refine ⟨_, ACall.hb (hge) (by with_unfolding_all rfl) (by with_unfolding_all rfl), ?_⟩ | refine ⟨_, _, ACall.h (hde) (by with_unfolding_all rfl), ?_⟩ | refine ⟨_, ACall.h (hde) (by with_unfolding_all rfl), ?_⟩ | refine ⟨_, _, ACall.hb (hde) (by with_unfolding_all rfl) (by with_unfolding_all rfl), ?_⟩ | refine ⟨_, ACall.hb (hde) (by with_unfolding_all rfl) (by with_unfolding_all rfl), ?_⟩ | refine ⟨_, _, ACall.h (hva) (by with_unfolding_all rfl), ?_⟩ | refine ⟨_, ACall.h (hva) (by with_unfolding_all rfl), ?_⟩ | refine ⟨_, _, ACall.hb (hva) (by with_unfolding_all rfl) (by with_unfolding_all rfl), ?_⟩ | refine ⟨_, ACall.hb (hva) (by with_unfolding_all rfl) (by with_unfolding_all rfl), ?_⟩ | refine ⟨_, _, ACall.h (hne) (by with_unfolding_all rfl), ?_⟩ | refine ⟨_, ACall.h (hne) (by with_unfolding_all rfl), ?_⟩ | refine ⟨_, _, ACall.hb (hne) (by with_unfolding_all rfl) (by with_unfolding_all rfl), ?_⟩ | refine ⟨_, ACall.hb (hne) (by with_unfolding_all rfl) (by with_unfolding_all rfl), ?_⟩ | refine ⟨_, _, ACall.h (hcu) (by with_unfolding_all rfl), ?_⟩ | refine ⟨_, ACall.h (hcu) (by with_unfolding_all rfl), ?_⟩ | refine ⟨_, _, ACall.hb (hcu) (by with_unfolding_all rfl) (by with_unfolding_all rfl), ?_⟩ | refine ⟨_, ACall.hb (hcu) (by with_unfolding_all rfl) (by with_unfolding_all rfl), ?_⟩ | refine ⟨_, _, ACall.h (hin) (by with_unfolding_all rfl), ?_⟩ | refine ⟨_, ACall.h (hin) (by with_unfolding_all rfl), ?_⟩ | refine ⟨_, _, ACall.hb (hin) (by with_unfolding_all rfl) (by with_unfolding_all rfl), ?_⟩ | refine ⟨_, ACall.hb (hin) (by with_unfolding_all rfl) (by with_unfolding_all rfl), ?_⟩ | refine ⟨_, _, ACall.h (he1) (by with_unfolding_all rfl), ?_⟩ | refine ⟨_, ACall.h (he1) (by with_unfolding_all rfl), ?_⟩ | refine ⟨_, _, ACall.hb (he1) (by with_unfolding_all rfl) (by with_unfolding_all rfl), ?_⟩ | refine ⟨_, ACall.hb (he1) (by with_unfolding_all rfl) (by with_unfolding_all rfl), ?_⟩ | refine ⟨_, _, ACall.h (he2) (by with_unfolding_all rfl), ?_⟩ | refine ⟨_, ACall.h (he2) (by with_unfolding_all rfl), ?_⟩ | refine ⟨_, _, ACall.hb (he2) (by with_unfolding_all rfl) (by with_unfolding_all rfl), ?_⟩ | refine ⟨_, ACall.hb (he2) (by with_unfolding_all rfl) (by with_unfolding_all rfl), ?_⟩); (try simp +contextual only [go_sem, chunks, List.range, List.range.loop, Int.reduceAdd, Int.add_zero])) | (with_reducible refine And.intro ?_ ?_) | ((with_reducible intro hpath); try first | (exfalso; (try clear hK'); (try clear hK); omega) | (exact absurd hpath (by assumption))) | ((with_reducible first | refine gi1 ?_ | refine gi2 ?_ | refine gn1 ?_ | refine gn2 ?_ | refine gi3 ?_ | refine gn3 ?_ | refine gnot ?_); omega) | (with_reducible exact True.intro) | ((refine hK' _ _ ?_); clear hK'; clear K'))); (try simp only [aput, List.set_cons_succ, List.set_cons_zero, List.length_cons, List.length_nil, List.length_append, List.cons_append, List.nil_append, Nat.reduceAdd, List.append_nil]))))
    | (with_reducible refine AWp.seq ?_)
    | (with_reducible refine AWp.block ?_)
    | (with_reducible refine AWp.skip ?_)
    | (with_reducible refine AWp.ret ?_)
    | (with_reducible refine AWp.exit ?_)
    | (refine AWp.cond _ rfl (fun hcond => ?_) (fun hcond => ?_) <;> first | (simp only [reduceCtorEq, Bool.true_eq_false, Bool.false_eq_true] at hcond; done) | (simp only [decide_eq_true_eq, decide_eq_false_iff_not, Bool.not_eq_true', Bool.not_eq_false', Int.not_lt, Int.not_le] at hcond; try (exfalso; omega)) | skip)
    | (with_reducible refine AThen.n ?_)
    | (with_reducible refine AThen.r ?_)
    | (with_reducible refine AThen.e ?_)
    | (with_reducible refine AInBlock.n ?_)
    | (with_reducible refine AInBlock.r ?_)
    | (with_reducible refine AInBlock.hit ?_)
    | (with_reducible refine AInBlock.miss (by with_unfolding_all decide) ?_))
  simp [Rets, aret, Blk.cells, ty, Try.results13, ares, toT1, toT, borrow, borrow0, capCell, toTree0, tbool]
def lightB (g : G) : Bool := decide (g.es.length ≤ 40) && (decide (checkG g ≠ 0) || decide ((endsL g.es).length ≤ 400))
theorem light_ok (g : G) : ACall Try.prog 12 [tG g] (tbool (lightB g)) := by
  refine ACall.of_body Try.func12 rfl (by kernel_rfl) ?_
  simp only [entry, Try.ntmps12, ofT, ofT1, ofTree, List.map_cons, List.map_nil, List.length_cons, List.length_nil, Nat.reduceAdd, Nat.reduceSub, List.replicate_succ, List.replicate_zero, List.cons_append, List.nil_append, tG]
  by_cases hl : g.es.length ≤ 40
  · by_cases hc : checkG g = 0
    · have hs := sm_of (g := g) (by omega) hc
      repeat' (first
        | (with_reducible refine AWp.seq_region (fun K hK => ?_))
        | (with_reducible refine AWp.last_region (fun K hK => ?_))
        | (with_reducible refine AWp.seq_draw (by with_unfolding_all kernel_rfl) (fun K hK => ?_))
        | (with_reducible refine AWp.last_draw (by with_unfolding_all kernel_rfl) (fun K hK => ?_))
        | ((with_reducible first | refine vcEnd ?_ | refine vcEndD ?_ | refine vcEndM ?_); refine hK _ _ ?_; clear hK; clear K)
        | ((with_reducible first | refine vcStepN (by rfl) (by with_unfolding_all rfl) ?_ | refine vcStepND (by rfl) (by with_unfolding_all rfl) ?_ | refine vcStepNM (by rfl) (by with_unfolding_all rfl) ?_); try simp only [aput, List.set_cons_succ, List.set_cons_zero, List.length_cons, List.length_nil, List.length_append, List.cons_append, List.nil_append, Nat.reduceAdd, List.append_nil])
        | ((with_reducible first | refine vcStep (by rfl) (fun K' hK' => ?_) | refine vcStepD (by rfl) (fun K' hK' => ?_) | refine vcStepM (by rfl) (fun K' hK' => ?_) | refine vcStepG (by rfl) (by with_unfolding_all rfl) (fun hguard K' hK' => ?_) (fun hguard => ?_) | refine vcStepGD (by rfl) (by with_unfolding_all rfl) (fun hguard K' hK' => ?_) (fun hguard => ?_) | refine vcStepGM (by rfl) (by with_unfolding_all rfl) (fun hguard K' hK' => ?_) (fun hguard => ?_)) <;> ((try (replace hguard := hguard; (try simp only [decide_eq_true_eq, decide_eq_false_iff_not, Bool.not_eq_true', Bool.not_eq_false', Bool.not_true, Bool.not_false, Int.not_lt, Int.not_le, reduceCtorEq, Bool.true_eq_false, Bool.false_eq_true] at hguard); (try (exfalso; (try clear hK'); (try clear hK); omega)))) <;> ((try (simp +contextual only [go_sem, eRows_len, hc])); (repeat' (first | ((with_reducible refine hK' _ _ ?_); clear hK'; clear K') | ((with_reducible first | refine ⟨_, _, ACall.h (CheckR_ok g (by omega)) (by with_unfolding_all rfl), ?_⟩ | refine ⟨_, ACall.h (CheckR_ok g (by omega)) (by with_unfolding_all rfl), ?_⟩ | refine ⟨_, _, ACall.hb (CheckR_ok g (by omega)) (by with_unfolding_all rfl) (by with_unfolding_all rfl), ?_⟩ | refine ⟨_, ACall.hb (CheckR_ok g (by omega)) (by with_unfolding_all rfl) (by with_unfolding_all rfl), ?_⟩ | refine ⟨_, _, ACall.h (SizeR_ok g hs.s hs.es hs.m) (by with_unfolding_all rfl), ?_⟩ | refine ⟨_, ACall.h (SizeR_ok g hs.s hs.es hs.m) (by with_unfolding_all rfl), ?_⟩ | refine ⟨_, _, ACall.hb (SizeR_ok g hs.s hs.es hs.m) (by with_unfolding_all rfl) (by with_unfolding_all rfl), ?_⟩ | refine ⟨_, ACall.hb (SizeR_ok g hs.s hs.es hs.m) (by with_unfolding_all rfl) (by with_unfolding_all rfl), ?_⟩); (try simp +contextual only [go_sem, eRows_len, hc])) | (with_reducible refine And.intro ?_ ?_) | ((with_reducible intro hpath); try first | (exfalso; (try clear hK'); (try clear hK); omega) | (exact absurd hpath (by assumption))) | ((with_reducible first | refine gi1 ?_ | refine gi2 ?_ | refine gn1 ?_ | refine gn2 ?_ | refine gi3 ?_ | refine gn3 ?_ | refine gnot ?_); omega) | (with_reducible exact True.intro) | ((refine hK' _ _ ?_); clear hK'; clear K'))); (try simp only [aput, List.set_cons_succ, List.set_cons_zero, List.length_cons, List.length_nil, List.length_append, List.cons_append, List.nil_append, Nat.reduceAdd, List.append_nil]))))
        | (with_reducible refine AWp.seq ?_)
        | (with_reducible refine AWp.block ?_)
        | (with_reducible refine AWp.skip ?_)
        | (with_reducible refine AWp.ret ?_)
        | (with_reducible refine AWp.exit ?_)
        | (refine AWp.cond _ rfl (fun hcond => ?_) (fun hcond => ?_) <;> first | (simp only [reduceCtorEq, Bool.true_eq_false, Bool.false_eq_true] at hcond; done) | (simp only [decide_eq_true_eq, decide_eq_false_iff_not, Bool.not_eq_true', Bool.not_eq_false', Int.not_lt, Int.not_le] at hcond; try (exfalso; omega)) | skip)
        | (with_reducible refine AThen.n ?_)
        | (with_reducible refine AThen.r ?_)
        | (with_reducible refine AThen.e ?_)
        | (with_reducible refine AInBlock.n ?_)
        | (with_reducible refine AInBlock.r ?_)
        | (with_reducible refine AInBlock.hit ?_)
        | (with_reducible refine AInBlock.miss (by with_unfolding_all decide) ?_))
      have e : lightB g = decide (((endsL g.es).length : Int) ≤ 400) := by unfold lightB; rw [decide_eq_true hl, hc, Bool.true_and, show decide ((0 : Int) ≠ 0) = false by decide, Bool.false_or]; exact decide_eq_decide.2 (by omega)
      simp [Rets, aret, Blk.cells, ty, Try.results12, ares, toT1, toT, borrow, borrow0, capCell, toTree0, tbool, e]
    ·
      repeat' (first
        | (with_reducible refine AWp.seq_region (fun K hK => ?_))
        | (with_reducible refine AWp.last_region (fun K hK => ?_))
        | (with_reducible refine AWp.seq_draw (by with_unfolding_all kernel_rfl) (fun K hK => ?_))
        | (with_reducible refine AWp.last_draw (by with_unfolding_all kernel_rfl) (fun K hK => ?_))
        | ((with_reducible first | refine vcEnd ?_ | refine vcEndD ?_ | refine vcEndM ?_); refine hK _ _ ?_; clear hK; clear K)
        | ((with_reducible first | refine vcStepN (by rfl) (by with_unfolding_all rfl) ?_ | refine vcStepND (by rfl) (by with_unfolding_all rfl) ?_ | refine vcStepNM (by rfl) (by with_unfolding_all rfl) ?_); try simp only [aput, List.set_cons_succ, List.set_cons_zero, List.length_cons, List.length_nil, List.length_append, List.cons_append, List.nil_append, Nat.reduceAdd, List.append_nil])
        | ((with_reducible first | refine vcStep (by rfl) (fun K' hK' => ?_) | refine vcStepD (by rfl) (fun K' hK' => ?_) | refine vcStepM (by rfl) (fun K' hK' => ?_) | refine vcStepG (by rfl) (by with_unfolding_all rfl) (fun hguard K' hK' => ?_) (fun hguard => ?_) | refine vcStepGD (by rfl) (by with_unfolding_all rfl) (fun hguard K' hK' => ?_) (fun hguard => ?_) | refine vcStepGM (by rfl) (by with_unfolding_all rfl) (fun hguard K' hK' => ?_) (fun hguard => ?_)) <;> ((try (replace hguard := hguard; (try simp only [decide_eq_true_eq, decide_eq_false_iff_not, Bool.not_eq_true', Bool.not_eq_false', Bool.not_true, Bool.not_false, Int.not_lt, Int.not_le, reduceCtorEq, Bool.true_eq_false, Bool.false_eq_true] at hguard); (try (exfalso; (try clear hK'); (try clear hK); omega)))) <;> ((try (simp +contextual only [go_sem, eRows_len])); (repeat' (first | ((with_reducible refine hK' _ _ ?_); clear hK'; clear K') | ((with_reducible first | refine ⟨_, _, ACall.h (CheckR_ok g (by omega)) (by with_unfolding_all rfl), ?_⟩ | refine ⟨_, ACall.h (CheckR_ok g (by omega)) (by with_unfolding_all rfl), ?_⟩ | refine ⟨_, _, ACall.hb (CheckR_ok g (by omega)) (by with_unfolding_all rfl) (by with_unfolding_all rfl), ?_⟩ | refine ⟨_, ACall.hb (CheckR_ok g (by omega)) (by with_unfolding_all rfl) (by with_unfolding_all rfl), ?_⟩); (try simp +contextual only [go_sem, eRows_len])) | (with_reducible refine And.intro ?_ ?_) | ((with_reducible intro hpath); try first | (exfalso; (try clear hK'); (try clear hK); omega) | (exact absurd hpath (by assumption))) | ((with_reducible first | refine gi1 ?_ | refine gi2 ?_ | refine gn1 ?_ | refine gn2 ?_ | refine gi3 ?_ | refine gn3 ?_ | refine gnot ?_); omega) | (with_reducible exact True.intro) | ((refine hK' _ _ ?_); clear hK'; clear K'))); (try simp only [aput, List.set_cons_succ, List.set_cons_zero, List.length_cons, List.length_nil, List.length_append, List.cons_append, List.nil_append, Nat.reduceAdd, List.append_nil]))))
        | (with_reducible refine AWp.seq ?_)
        | (with_reducible refine AWp.block ?_)
        | (with_reducible refine AWp.skip ?_)
        | (with_reducible refine AWp.ret ?_)
        | (with_reducible refine AWp.exit ?_)
        | (refine AWp.cond _ rfl (fun hcond => ?_) (fun hcond => ?_) <;> first | (simp only [reduceCtorEq, Bool.true_eq_false, Bool.false_eq_true] at hcond; done) | (simp only [decide_eq_true_eq, decide_eq_false_iff_not, Bool.not_eq_true', Bool.not_eq_false', Int.not_lt, Int.not_le] at hcond; try (exfalso; omega)) | skip)
        | (with_reducible refine AThen.n ?_)
        | (with_reducible refine AThen.r ?_)
        | (with_reducible refine AThen.e ?_)
        | (with_reducible refine AInBlock.n ?_)
        | (with_reducible refine AInBlock.r ?_)
        | (with_reducible refine AInBlock.hit ?_)
        | (with_reducible refine AInBlock.miss (by with_unfolding_all decide) ?_))
      have e : lightB g = true := by unfold lightB; rw [decide_eq_true hl, decide_eq_true (show checkG g ≠ 0 from hc)]; rfl
      simp [Rets, aret, Blk.cells, ty, Try.results12, ares, toT1, toT, borrow, borrow0, capCell, toTree0, tbool, e]
  ·
    repeat' (first
      | (with_reducible refine AWp.seq_region (fun K hK => ?_))
      | (with_reducible refine AWp.last_region (fun K hK => ?_))
      | (with_reducible refine AWp.seq_draw (by with_unfolding_all kernel_rfl) (fun K hK => ?_))
      | (with_reducible refine AWp.last_draw (by with_unfolding_all kernel_rfl) (fun K hK => ?_))
      | ((with_reducible first | refine vcEnd ?_ | refine vcEndD ?_ | refine vcEndM ?_); refine hK _ _ ?_; clear hK; clear K)
      | ((with_reducible first | refine vcStepN (by rfl) (by with_unfolding_all rfl) ?_ | refine vcStepND (by rfl) (by with_unfolding_all rfl) ?_ | refine vcStepNM (by rfl) (by with_unfolding_all rfl) ?_); try simp only [aput, List.set_cons_succ, List.set_cons_zero, List.length_cons, List.length_nil, List.length_append, List.cons_append, List.nil_append, Nat.reduceAdd, List.append_nil])
      | ((with_reducible first | refine vcStep (by rfl) (fun K' hK' => ?_) | refine vcStepD (by rfl) (fun K' hK' => ?_) | refine vcStepM (by rfl) (fun K' hK' => ?_) | refine vcStepG (by rfl) (by with_unfolding_all rfl) (fun hguard K' hK' => ?_) (fun hguard => ?_) | refine vcStepGD (by rfl) (by with_unfolding_all rfl) (fun hguard K' hK' => ?_) (fun hguard => ?_) | refine vcStepGM (by rfl) (by with_unfolding_all rfl) (fun hguard K' hK' => ?_) (fun hguard => ?_)) <;> ((try (replace hguard := hguard; (try simp only [decide_eq_true_eq, decide_eq_false_iff_not, Bool.not_eq_true', Bool.not_eq_false', Bool.not_true, Bool.not_false, Int.not_lt, Int.not_le, reduceCtorEq, Bool.true_eq_false, Bool.false_eq_true] at hguard); (try (exfalso; (try clear hK'); (try clear hK); omega)))) <;> ((try (simp +contextual only [go_sem, eRows_len])); (repeat' (first | ((with_reducible refine hK' _ _ ?_); clear hK'; clear K') | (with_reducible refine And.intro ?_ ?_) | ((with_reducible intro hpath); try first | (exfalso; (try clear hK'); (try clear hK); omega) | (exact absurd hpath (by assumption))) | ((with_reducible first | refine gi1 ?_ | refine gi2 ?_ | refine gn1 ?_ | refine gn2 ?_ | refine gi3 ?_ | refine gn3 ?_ | refine gnot ?_); omega) | (with_reducible exact True.intro) | ((refine hK' _ _ ?_); clear hK'; clear K'))); (try simp only [aput, List.set_cons_succ, List.set_cons_zero, List.length_cons, List.length_nil, List.length_append, List.cons_append, List.nil_append, Nat.reduceAdd, List.append_nil]))))
      | (with_reducible refine AWp.seq ?_)
      | (with_reducible refine AWp.block ?_)
      | (with_reducible refine AWp.skip ?_)
      | (with_reducible refine AWp.ret ?_)
      | (with_reducible refine AWp.exit ?_)
      | (refine AWp.cond _ rfl (fun hcond => ?_) (fun hcond => ?_) <;> first | (simp only [reduceCtorEq, Bool.true_eq_false, Bool.false_eq_true] at hcond; done) | (simp only [decide_eq_true_eq, decide_eq_false_iff_not, Bool.not_eq_true', Bool.not_eq_false', Int.not_lt, Int.not_le] at hcond; try (exfalso; omega)) | skip)
      | (with_reducible refine AThen.n ?_)
      | (with_reducible refine AThen.r ?_)
      | (with_reducible refine AThen.e ?_)
      | (with_reducible refine AInBlock.n ?_)
      | (with_reducible refine AInBlock.r ?_)
      | (with_reducible refine AInBlock.hit ?_)
      | (with_reducible refine AInBlock.miss (by with_unfolding_all decide) ?_))
    have e : lightB g = false := by unfold lightB; rw [decide_eq_false hl]; rfl
    simp [Rets, aret, Blk.cells, ty, Try.results12, ares, toT1, toT, borrow, borrow0, capCell, toTree0, tbool, e]
end Go.Proofs.Ytbdpkgckdkpepaa
