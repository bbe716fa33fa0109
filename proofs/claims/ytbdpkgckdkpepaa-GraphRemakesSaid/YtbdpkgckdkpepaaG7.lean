/- A part of the proof: contracts of functions of the program, or plain lemmas. -/
import Derived.Test.YtbdpkgckdkpepaaG6
import Derived.Test.YtbdpkgckdkpepaaKey
import Derived.Test.YtbdpkgckdkpepaaLayerC
set_option linter.all false
namespace Go.Proofs.Ytbdpkgckdkpepaa
open Go.Sp
open Go.Sort (SWO)
set_option linter.unusedSimpArgs false
set_option linter.unusedVariables false
set_option maxHeartbeats 4000000
set_option maxRecDepth 100000


instance : Inhabited E := ⟨⟨0, 0, 0⟩⟩
def tE (e : E) : TVal := .agg (eRow e)
def cmpP (a b c d : Int) : Int := orI [cmpI a c, cmpI b d]
def cfE (x y : E) : Int := cmpP x.a x.b y.a y.b
theorem closE_ok (x y : E) : ACall Try.prog 78 [.agg (eRow x), .agg (eRow y)] (.t (.int .i64 (cfE x y))) := by
  refine ACall.of_body Try.func78 rfl (by kernel_rfl) ?_
  simp only [entry, Try.ntmps78, ofT, ofT1, ofTree, List.map_cons, List.map_nil, List.length_cons, List.length_nil, Nat.reduceAdd, Nat.reduceSub, List.replicate_succ, List.replicate_zero, List.cons_append, List.nil_append, eRow]
  repeat' (first
    | (with_reducible refine AWp.seq_region (fun K hK => ?_))
    | (with_reducible refine AWp.last_region (fun K hK => ?_))
    | (with_reducible refine AWp.seq_draw (by with_unfolding_all kernel_rfl) (fun K hK => ?_))
    | (with_reducible refine AWp.last_draw (by with_unfolding_all kernel_rfl) (fun K hK => ?_))
    | ((with_reducible first | refine vcEnd ?_ | refine vcEndD ?_ | refine vcEndM ?_); refine hK _ _ ?_; clear hK; clear K)
    | ((with_reducible first | refine vcStepN (by rfl) (by with_unfolding_all rfl) ?_ | refine vcStepND (by rfl) (by with_unfolding_all rfl) ?_ | refine vcStepNM (by rfl) (by with_unfolding_all rfl) ?_); try simp only [aput, List.set_cons_succ, List.set_cons_zero, List.length_cons, List.length_nil, List.length_append, List.cons_append, List.nil_append, Nat.reduceAdd, List.append_nil])
    | ((with_reducible first | refine vcStep (by rfl) (fun K' hK' => ?_) | refine vcStepD (by rfl) (fun K' hK' => ?_) | refine vcStepM (by rfl) (fun K' hK' => ?_) | refine vcStepG (by rfl) (by with_unfolding_all rfl) (fun hguard K' hK' => ?_) (fun hguard => ?_) | refine vcStepGD (by rfl) (by with_unfolding_all rfl) (fun hguard K' hK' => ?_) (fun hguard => ?_) | refine vcStepGM (by rfl) (by with_unfolding_all rfl) (fun hguard K' hK' => ?_) (fun hguard => ?_)) <;> ((try (replace hguard := hguard; (try simp only [decide_eq_true_eq, decide_eq_false_iff_not, Bool.not_eq_true', Bool.not_eq_false', Bool.not_true, Bool.not_false, Int.not_lt, Int.not_le, reduceCtorEq, Bool.true_eq_false, Bool.false_eq_true] at hguard); (try (exfalso; (try clear hK'); (try clear hK); omega)))) <;> ((try (simp +contextual only [go_sem])); (repeat' (first | ((with_reducible refine hK' _ _ ?_); clear hK'; clear K') | ((with_reducible first | refine ⟨_, _, ACall.h (compare_ok _ _ _ _) (by with_unfolding_all rfl), ?_⟩ | refine ⟨_, ACall.h (compare_ok _ _ _ _) (by with_unfolding_all rfl), ?_⟩ | refine ⟨_, _, ACall.hb (compare_ok _ _ _ _) (by with_unfolding_all rfl) (by with_unfolding_all rfl), ?_⟩ | refine ⟨_, ACall.hb (compare_ok _ _ _ _) (by with_unfolding_all rfl) (by with_unfolding_all rfl), ?_⟩); (try simp +contextual only [go_sem])) | (with_reducible refine And.intro ?_ ?_) | ((with_reducible intro hpath); try first | (exfalso; (try clear hK'); (try clear hK); omega) | (exact absurd hpath (by assumption))) | ((with_reducible first | refine gi1 ?_ | refine gi2 ?_ | refine gn1 ?_ | refine gn2 ?_ | refine gi3 ?_ | refine gn3 ?_ | refine gnot ?_); omega) | (with_reducible exact True.intro) | ((refine hK' _ _ ?_); clear hK'; clear K'))); (try simp only [aput, List.set_cons_succ, List.set_cons_zero, List.length_cons, List.length_nil, List.length_append, List.cons_append, List.nil_append, Nat.reduceAdd, List.append_nil]))))
    | (with_reducible refine AWp.seq ?_)
    | (with_reducible refine AWp.block ?_)
    | (with_reducible refine AWp.skip ?_)
    | (with_reducible refine AWp.ret ?_)
    | (with_reducible refine AWp.exit ?_)
    | (refine AWp.cond _ rfl (fun hcond => ?_) (fun hcond => ?_) <;> first | (simp only [reduceCtorEq, Bool.true_eq_false, Bool.false_eq_true] at hcond; done) | (simp only [decide_eq_true_eq, decide_eq_false_iff_not, Bool.not_eq_true', Bool.not_eq_false', Int.not_lt, Int.not_le] at hcond; try (exfalso; omega)) | skip)
    | (with_reducible refine AThen.n ?_)
    | (with_reducible refine AThen.r ?_)
    | (with_reducible refine AThen.e ?_)
    | (with_reducible refine AInBlock.n ?_)
    | (with_reducible refine AInBlock.r ?_)
    | (with_reducible refine AInBlock.hit ?_)
    | (with_reducible refine AInBlock.miss (by with_unfolding_all decide) ?_))
  simp [Rets, aret, Blk.cells, ty, Try.results78, ares, toT1, toT, borrow, borrow0, capCell, toTree0, cfE, cmpP, tint]
theorem ltOf_cfE (x y : E) : Go.Proofs.ltOf cfE x y = true ↔ ltE x y := by
  unfold Go.Proofs.ltOf cfE cmpP orI orI cmpI ltE
  simp only [decide_eq_true_eq]
  (repeat' split) <;> simp_all [orI] <;> omega
theorem swoE : SWO (Go.Proofs.ltOf cfE) where
  irrefl x := by
    rw [← Bool.not_eq_true, ltOf_cfE]; unfold ltE; omega
  trans x y z h1 h2 := by
    rw [ltOf_cfE] at *; unfold ltE at *; omega
  ntrans x y z h1 h2 := by
    rw [← Bool.not_eq_true, ltOf_cfE] at *; unfold ltE at *; omega
noncomputable def sortE (es : List E) : List E := sortL cfE es
def neE (x y : E) : Prop := ¬ (x.a = y.a ∧ x.b = y.b)
theorem neE.symm {x y : E} (h : neE x y) : neE y x := by unfold neE at *; omega
def distinctE (es : List E) : Prop := es.Pairwise neE
theorem sortE_perm (es : List E) : (sortE es).Perm es := (sortL_spec swoE es).1
theorem sortE_sorted {es : List E} (h : distinctE es) : (sortE es).Pairwise ltE := by
  have h1 : distinctE (sortE es) := (List.Perm.pairwise_iff neE.symm (sortE_perm es)).2 h
  unfold distinctE at h1
  rw [List.pairwise_iff_getElem] at h1 ⊢
  intro i j hi hj hij
  have h2 := (sortL_spec swoE es).2 i j _ _ hij (List.getElem?_eq_getElem hi) (List.getElem?_eq_getElem hj)
  rw [← Bool.not_eq_true, ltOf_cfE] at h2
  have h3 := h1 i j hi hj hij
  unfold ltE neE at *
  simp only [sortE] at *
  omega
theorem sorted_unique {l l' : List E} (h : l.Pairwise ltE) (h' : l'.Pairwise ltE) (hp : l.Perm l') : l = l' :=
  List.Perm.eq_of_pairwise (le := ltE) (fun a b _ _ h1 h2 => by unfold ltE at *; omega) h h' hp
theorem sortE_eq {l es : List E} (h : l.Pairwise ltE) (hp : l.Perm es) : sortE es = l := by
  have hd : distinctE es := by
    refine (List.Perm.pairwise_iff neE.symm hp).1 ?_
    exact h.imp fun {x y} h => by unfold ltE at h; unfold neE; omega
  exact sorted_unique (sortE_sorted hd) h ((sortE_perm es).trans hp.symm)
theorem sortE_congr {l es : List E} (hd : distinctE es) (hp : l.Perm es) : sortE l = sortE es := by
  have hd' : distinctE l := (List.Perm.pairwise_iff neE.symm hp.symm).1 hd
  exact sorted_unique (sortE_sorted hd') (sortE_sorted hd) ((sortE_perm l).trans (hp.trans (sortE_perm es).symm))
end Go.Proofs.Ytbdpkgckdkpepaa
