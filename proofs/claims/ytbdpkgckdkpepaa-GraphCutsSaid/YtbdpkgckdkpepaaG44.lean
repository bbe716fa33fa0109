/- A part of the proof: contracts of functions of the program, or plain lemmas. -/
import Derived.Test.YtbdpkgckdkpepaaG43
set_option linter.all false
namespace Go.Proofs.Ytbdpkgckdkpepaa
open Go.Sp
set_option linter.unusedSimpArgs false
set_option linter.unusedVariables false
set_option maxHeartbeats 4000000
set_option maxRecDepth 100000



def treesI (r : List Int) : List Tree := r.map fun x => Tree.int .i64 x
def roB (r : List Int) : Blk := .ro (treesI r)
section
variable {P : Program} {rd : Option Nat} {h : Nat} {Q : Exit → St → Prop} {c : Code} {tm : List AVal}
/-- A table that was filled becomes data. -/
theorem table_data (pre : List Blk) (t : Nat) (tok : Tok) (n : Nat) (T : List (List Int)) (hT : Sq n T) (ht : tm[t]? = some (.c (.rows (refsT pre.length n n) tok)))
    (hw : AWp P rd h c Q ⟨tm.set t (.c (.slice (tabRows T) .none)), pre ++ T.map roB⟩) : AWp P rd h c Q ⟨tm, pre ++ T.map rowB⟩ := by
  have e1 : T.map rowB = (T.map fun r => (iC r, treesI r)).map fun p => Blk.box p.1 := by rw [List.map_map]; rfl
  have e2 : T.map roB = (T.map fun r => (iC r, treesI r)).map fun p => Blk.ro p.2 := by rw [List.map_map]; rfl
  rw [e1]
  refine AWp.freezeL _ pre (fun p hp => ?_) ?_
  · obtain ⟨r, _, rfl⟩ := List.mem_map.1 hp
    exact iC_trees r
  rw [← e2]
  refine AWp.rowsData t (refsT pre.length n n) tok (T.map fun r => Tree.slice (iRows r)) ht (by rw [refsT_len, List.length_map, hT.len]) (fun i r hr => ?_) hw
  have hi : i < n := by have := (List.getElem?_eq_some_iff.1 hr).1; rwa [refsT_len] at this
  rw [refsT_get hi] at hr
  cases hr
  have hil : i < T.length := by rw [hT.len]; exact hi
  have hrl := hT.row _ (List.getElem_mem hil)
  refine ⟨_, .slice (iRows T[i]), rfl, by rw [List.getElem?_map, List.getElem?_eq_getElem hil]; rfl, fun ι σ w u hH hu => ?_⟩
  refine ro_slice (ts := treesI T[i]) hH ?_ hu (by rw [iRows_len]; exact hrl) (Nat.le_refl _) (fun r hr => iRows_k' hr) (iRows_pre T[i])
  rw [List.getElem?_append_right (by omega), Nat.add_sub_cancel, List.getElem?_map, List.getElem?_eq_getElem hil]; rfl
end
theorem tab_get {T : List (List Int)} {i : Nat} {r : List Int} (h : T[i]? = some r) : (T.map rowB)[i]? = some (.box (iC r)) := by rw [List.getElem?_map, h]; rfl
theorem tab_set (T : List (List Int)) (i : Nat) (r : List Int) : (T.map rowB).set i (.box (iC r)) = (T.set i r).map rowB := by rw [List.map_set]; rfl
theorem iC_get {B : List Int} {i : Nat} {x : Int} (h : B[i]? = some x) : (iC B)[i]? = some (.int .i64 x) := by simp [iC, h]
/-- The table of a function. -/
def tabF (n : Nat) (g : Nat → Nat → Int) : List (List Int) := (List.range n).map fun a => (List.range n).map fun b => g a b
theorem tabF_sq (n : Nat) (g : Nat → Nat → Int) : Sq n (tabF n g) := ⟨by simp [tabF], fun r hr => by obtain ⟨a, _, rfl⟩ := List.mem_map.1 hr; simp⟩
@[simp] theorem tabF_take (n : Nat) (g : Nat → Nat → Int) : (tabF n g).take n = tabF n g := List.take_of_length_le (by rw [(tabF_sq n g).len]; exact Nat.le_refl _)
@[simp] theorem tab_take (n : Nat) (g : Nat → Nat → Int) : ((tabF n g).map rowB).take n = (tabF n g).map rowB := List.take_of_length_le (by rw [List.length_map, (tabF_sq n g).len]; exact Nat.le_refl _)
theorem tabF_row {n : Nat} (g : Nat → Nat → Int) {a : Nat} (ha : a < n) : (tabF n g)[a]? = some ((List.range n).map fun b => g a b) := by simp [tabF, ha]
theorem tabF_cell {n : Nat} (g : Nat → Nat → Int) {a b : Nat} (ha : a < n) (hb : b < n) : cellT (tabF n g) a b = g a b := by
  unfold cellT
  rw [List.getD_eq_getElem?_getD (l := tabF n g), tabF_row g ha, Option.getD_some, List.getD_eq_getElem?_getD]; simp [hb]
theorem tabF_congr {n : Nat} {g f : Nat → Nat → Int} (h : ∀ a b, a < n → b < n → g a b = f a b) : tabF n g = tabF n f := by
  unfold tabF
  refine List.map_congr_left fun a ha => List.map_congr_left fun b hb => h a b (List.mem_range.1 ha) (List.mem_range.1 hb)
theorem tabF_set {n : Nat} (g : Nat → Nat → Int) {a b : Nat} (ha : a < n) (hb : b < n) (x : Int) : (tabF n g).set a (((List.range n).map fun b => g a b).set b x) = tabF n (fun i j => if i = a ∧ j = b then x else g i j) := by
  apply List.ext_getElem?
  intro i
  by_cases hi : i < n
  · rw [tabF_row _ hi]
    by_cases e : a = i
    · subst e
      rw [List.getElem?_set_self (by rw [(tabF_sq n g).len]; exact ha)]
      congr 1
      apply List.ext_getElem?
      intro j
      by_cases e2 : b = j
      · subst e2; rw [List.getElem?_set_self (by simpa using hb)]; simp [hb]
      · rw [List.getElem?_set_ne e2]
        by_cases hj : j < n
        · simp [hj, Ne.symm e2]
        · simp [hj]
    · rw [List.getElem?_set_ne e, tabF_row _ hi]
      congr 1
      refine List.map_congr_left fun j _ => ?_
      rw [if_neg (by omega)]
  · rw [List.getElem?_eq_none (by rw [List.length_set, (tabF_sq n g).len]; omega), List.getElem?_eq_none (by rw [(tabF_sq n _).len]; omega)]
theorem rep_tab (n : Nat) (g : Nat → Nat → Int) (h : ∀ a b, g a b = 0) : List.replicate n (rowB (List.replicate n 0)) = (tabF n g).map rowB := by
  have e : tabF n g = List.replicate n (List.replicate n 0) := by
    unfold tabF
    rw [List.eq_replicate_iff]
    refine ⟨by simp, fun r hr => ?_⟩
    obtain ⟨a, _, rfl⟩ := List.mem_map.1 hr
    rw [List.eq_replicate_iff]
    refine ⟨by simp, fun x hx => ?_⟩
    obtain ⟨b, _, rfl⟩ := List.mem_map.1 hx
    exact h a b
  rw [e, List.map_replicate]
/-- What is filled, row by row from the diagonal on. -/
def gI (f : Nat → Nat → Int) (i k a b : Nat) : Int := if a ≤ b ∧ (a < i ∨ (a = i ∧ b < k)) then f a b else 0
theorem gI_step {n : Nat} (f : Nat → Nat → Int) {i k : Nat} (hik : i ≤ k) : tabF n (fun a b => if a = i ∧ b = k then f i k else gI f i k a b) = tabF n (gI f i (k + 1)) := by
  refine tabF_congr fun a b _ _ => ?_
  unfold gI
  by_cases h : a = i ∧ b = k
  · obtain ⟨rfl, rfl⟩ := h
    rw [if_pos ⟨rfl, rfl⟩, if_pos ⟨hik, .inr ⟨rfl, by omega⟩⟩]
  · rw [if_neg h]
    by_cases h2 : a ≤ b ∧ (a < i ∨ (a = i ∧ b < k))
    · rw [if_pos h2, if_pos (by omega)]
    · rw [if_neg h2, if_neg (by omega)]
theorem gI_row {n : Nat} (f : Nat → Nat → Int) (i : Nat) : tabF n (gI f i n) = tabF n (gI f (i + 1) (i + 1)) := by
  refine tabF_congr fun a b _ _ => ?_
  unfold gI
  by_cases h2 : a ≤ b ∧ (a < i ∨ (a = i ∧ b < n))
  · rw [if_pos h2, if_pos (by omega)]
  · rw [if_neg h2, if_neg (by omega)]
def pairF (es : List E) (l : List Int) (a b : Nat) : Int := cntL es (min (l.getD a 0) (l.getD b 0)) (max (l.getD a 0) (l.getD b 0))
theorem InducedR_ok (g : G) (l : List Int) (hl : l.length ≤ 12) (hg : g.es.length < 2 ^ 40) : ACall Try.prog 32 [tG g, tints l] (tG ⟨l.length, joinE (pairF g.es l) l.length l.length⟩) := by
  obtain ⟨n, hn⟩ : ∃ n, l.length = n := ⟨_, rfl⟩
  rw [hn]
  have hT2 := Table2_ok n (by omega) g.n g.es
  rw [rep_tab n (gI (pairF g.es l) 0 0) (fun a b => by unfold gI; exact if_neg (by omega))] at hT2
  refine ACall.of_body Try.func32 rfl (by kernel_rfl) ?_
  simp only [entry, Try.ntmps32, ofT, ofT1, ofTree, List.map_cons, List.map_nil, List.length_cons, List.length_nil, Nat.reduceAdd, Nat.reduceSub, List.replicate_succ, List.replicate_zero, List.cons_append, List.nil_append, tG, tints]
  repeat' (first
    | (with_reducible refine AWp.seq_region (fun K hK => ?_))
    | (with_reducible refine AWp.last_region (fun K hK => ?_))
    | (with_reducible refine AWp.seq_draw (by with_unfolding_all kernel_rfl) (fun K hK => ?_))
    | (with_reducible refine AWp.last_draw (by with_unfolding_all kernel_rfl) (fun K hK => ?_))
    | ((with_reducible first | refine vcEnd ?_ | refine vcEndD ?_ | refine vcEndM ?_); refine hK _ _ ?_; clear hK; clear K)
    | ((with_reducible first | refine vcStepN (by rfl) (by with_unfolding_all rfl) ?_ | refine vcStepND (by rfl) (by with_unfolding_all rfl) ?_ | refine vcStepNM (by rfl) (by with_unfolding_all rfl) ?_); try simp only [aput, List.set_cons_succ, List.set_cons_zero, List.length_cons, List.length_nil, List.length_append, List.cons_append, List.nil_append, Nat.reduceAdd, List.append_nil])
    | ((with_reducible first | refine vcStep (by rfl) (fun K' hK' => ?_) | refine vcStepD (by rfl) (fun K' hK' => ?_) | refine vcStepM (by rfl) (fun K' hK' => ?_) | refine vcStepG (by rfl) (by with_unfolding_all rfl) (fun hguard K' hK' => ?_) (fun hguard => ?_) | refine vcStepGD (by rfl) (by with_unfolding_all rfl) (fun hguard K' hK' => ?_) (fun hguard => ?_) | refine vcStepGM (by rfl) (by with_unfolding_all rfl) (fun hguard K' hK' => ?_) (fun hguard => ?_)) <;> ((try (replace hguard := hguard; (try simp only [decide_eq_true_eq, decide_eq_false_iff_not, Bool.not_eq_true', Bool.not_eq_false', Bool.not_true, Bool.not_false, Int.not_lt, Int.not_le, reduceCtorEq, Bool.true_eq_false, Bool.false_eq_true] at hguard); (try (exfalso; (try clear hK'); (try clear hK); omega)))) <;> ((try (simp +contextual only [go_sem, iRows_len, hn])); (repeat' (first | ((with_reducible refine hK' _ _ ?_); clear hK'; clear K') | ((with_reducible first | refine ⟨_, _, hT2, ?_⟩ | refine ⟨_, hT2, ?_⟩); (try simp +contextual only [go_sem, iRows_len, hn])) | (with_reducible refine And.intro ?_ ?_) | ((with_reducible intro hpath); try first | (exfalso; (try clear hK'); (try clear hK); omega) | (exact absurd hpath (by assumption))) | ((with_reducible first | refine gi1 ?_ | refine gi2 ?_ | refine gn1 ?_ | refine gn2 ?_ | refine gi3 ?_ | refine gn3 ?_ | refine gnot ?_); omega) | (with_reducible exact True.intro) | ((refine hK' _ _ ?_); clear hK'; clear K'))); (try simp only [aput, List.set_cons_succ, List.set_cons_zero, List.length_cons, List.length_nil, List.length_append, List.cons_append, List.nil_append, Nat.reduceAdd, List.append_nil]))))
    | (with_reducible refine AWp.seq ?_)
    | (with_reducible refine AWp.block ?_)
    | (with_reducible refine AWp.skip ?_)
    | (with_reducible refine AWp.ret ?_)
    | (with_reducible refine AWp.exit ?_)
    | (refine AWp.cond _ rfl (fun hcond => ?_) (fun hcond => ?_) <;> first | (simp only [reduceCtorEq, Bool.true_eq_false, Bool.false_eq_true] at hcond; done) | (simp only [decide_eq_true_eq, decide_eq_false_iff_not, Bool.not_eq_true', Bool.not_eq_false', Int.not_lt, Int.not_le] at hcond; try (exfalso; omega)) | skip)
    | (with_reducible refine AThen.n ?_)
    | (with_reducible refine AThen.r ?_)
    | (with_reducible refine AThen.e ?_)
    | (with_reducible refine AInBlock.n ?_)
    | (with_reducible refine AInBlock.r ?_)
    | (with_reducible refine AInBlock.hit ?_)
    | (with_reducible refine AInBlock.miss (by with_unfolding_all decide) ?_))
  refine AWp.loopx (α := Nat) (fun i => (⟨.c .any :: .c (.slice (iRows l) .none) :: .c (.ptr 0 0) :: .c .any :: .c (.ptr 1 0) :: .c (.rows (refsT 3 n n) (.chain 2)) :: .c (.int .i64 (i : Int)) :: .c .any :: .c .any :: .c .any :: .c .any :: .c .any :: .c .any :: .c .any :: .c .any :: .c .any :: .c .any :: .c .any :: .c .any :: .c .any :: .c .any :: .c .any :: .c .any :: .c .any :: .c .any :: .c .any :: .c .any :: .c .any :: .c .any :: .c .any :: .c .any :: .c .any :: .c .any :: .c .any :: .c .any :: .c .any :: .c .any :: .c .any :: .c .any :: .c .any :: .c .any :: .c .any :: .c .any :: .c .any :: [], .box [.int .i64 g.n, .slice (eRows g.es) .none] :: .box [.int .i64 0, .nils] :: .chain n 1 :: (tabF n (gI (pairF g.es l) i i)).map rowB⟩ : St)) (fun i => i ≤ n) (fun i => n - i) (0) (Weak.head2 (m := n + 3) (by omega) ((fun t f => [f, t, t, f, t, t, t, f, f, f, f, f, f, f, f, f, f, f, f, f, f, f, f, f, f, f, f, f, f, f, f, f, f, f, f, f, f, f, f, f, f, f, f, f]) true false) (by first | rfl | (simp [mask]; done) | (simp [mask] <;> omega)) (by first | rfl | (simp; done) | (simp <;> omega)) (by (repeat' (first | exact valsIn_nil _ | exact blksIn_nil _ | exact cellsIn_nil _ | refine And.intro ?_ ?_ | refine valsIn_cons ?_ ?_ | refine blksIn_cons ?_ ?_ | refine cellsIn_cons ?_ ?_ | exact True.intro | exact refsT_in (by omega) | exact blksIn_rep | exact blksIn_tab | (show _ < _; omega) | exact cellsIn_map (fun _ => True.intro) | (intro c hc; cases hc; done) | (intro c hc; simp only [List.mem_cons, List.not_mem_nil, or_false] at hc; subst hc; exact True.intro))))) ?_ (fun i hI => ?_)
  · exact Nat.zero_le _
  · have hi : i ≤ n := hI
    clear hI
    by_cases hlt : i < n
    · have hltI : (i : Int) < n := by omega
      have e0 := List.getElem?_eq_getElem (show i < l.length by omega)
      have e1 := iRows_get e0
      have hli : l.getD i 0 = l[i] := by rw [List.getD_eq_getElem?_getD, e0]; rfl
      generalize l[i] = u at *
      repeat' (first
        | (with_reducible refine AWp.seq_region (fun K hK => ?_))
        | (with_reducible refine AWp.last_region (fun K hK => ?_))
        | (with_reducible refine AWp.seq_draw (by with_unfolding_all kernel_rfl) (fun K hK => ?_))
        | (with_reducible refine AWp.last_draw (by with_unfolding_all kernel_rfl) (fun K hK => ?_))
        | ((with_reducible first | refine vcEnd ?_ | refine vcEndD ?_ | refine vcEndM ?_); refine hK _ _ ?_; clear hK; clear K)
        | ((with_reducible first | refine vcStepN (by rfl) (by with_unfolding_all rfl) ?_ | refine vcStepND (by rfl) (by with_unfolding_all rfl) ?_ | refine vcStepNM (by rfl) (by with_unfolding_all rfl) ?_); try simp only [aput, List.set_cons_succ, List.set_cons_zero, List.length_cons, List.length_nil, List.length_append, List.cons_append, List.nil_append, Nat.reduceAdd, List.append_nil])
        | ((with_reducible first | refine vcStep (by rfl) (fun K' hK' => ?_) | refine vcStepD (by rfl) (fun K' hK' => ?_) | refine vcStepM (by rfl) (fun K' hK' => ?_) | refine vcStepG (by rfl) (by with_unfolding_all rfl) (fun hguard K' hK' => ?_) (fun hguard => ?_) | refine vcStepGD (by rfl) (by with_unfolding_all rfl) (fun hguard K' hK' => ?_) (fun hguard => ?_) | refine vcStepGM (by rfl) (by with_unfolding_all rfl) (fun hguard K' hK' => ?_) (fun hguard => ?_)) <;> ((try (replace hguard := hguard; (try simp only [decide_eq_true_eq, decide_eq_false_iff_not, Bool.not_eq_true', Bool.not_eq_false', Bool.not_true, Bool.not_false, Int.not_lt, Int.not_le, reduceCtorEq, Bool.true_eq_false, Bool.false_eq_true] at hguard); (try (exfalso; (try clear hK'); (try clear hK); omega)))) <;> ((try (simp +contextual only [go_sem, hltI, iRows_len, hn])); (repeat' (first | ((with_reducible refine hK' _ _ ?_); clear hK'; clear K') | (with_reducible refine And.intro ?_ ?_) | ((with_reducible intro hpath); try first | (exfalso; (try clear hK'); (try clear hK); omega) | (exact absurd hpath (by assumption))) | ((with_reducible first | refine gi1 ?_ | refine gi2 ?_ | refine gn1 ?_ | refine gn2 ?_ | refine gi3 ?_ | refine gn3 ?_ | refine gnot ?_); omega) | (with_reducible exact True.intro) | ((refine hK' _ _ ?_); clear hK'; clear K'))); (try simp only [aput, List.set_cons_succ, List.set_cons_zero, List.length_cons, List.length_nil, List.length_append, List.cons_append, List.nil_append, Nat.reduceAdd, List.append_nil]))))
        | (with_reducible refine AWp.seq ?_)
        | (with_reducible refine AWp.block ?_)
        | (with_reducible refine AWp.skip ?_)
        | (with_reducible refine AWp.ret ?_)
        | (with_reducible refine AWp.exit ?_)
        | (refine AWp.cond _ rfl (fun hcond => ?_) (fun hcond => ?_) <;> first | (simp only [reduceCtorEq, Bool.true_eq_false, Bool.false_eq_true] at hcond; done) | (simp only [decide_eq_true_eq, decide_eq_false_iff_not, Bool.not_eq_true', Bool.not_eq_false', Int.not_lt, Int.not_le] at hcond; try (exfalso; omega)) | skip)
        | (with_reducible refine AThen.n ?_)
        | (with_reducible refine AThen.r ?_)
        | (with_reducible refine AThen.e ?_)
        | (with_reducible refine AInBlock.n ?_)
        | (with_reducible refine AInBlock.r ?_)
        | (with_reducible refine AInBlock.hit ?_)
        | (with_reducible refine AInBlock.miss (by with_unfolding_all decide) ?_))
      refine AWp.loopx (α := Nat) (fun k => (⟨.c .any :: .c (.slice (iRows l) .none) :: .c (.ptr 0 0) :: .c .any :: .c (.ptr 1 0) :: .c (.rows (refsT 3 n n) (.chain 2)) :: .c (.int .i64 (i : Int)) :: .c (.int .i64 (k : Int)) :: .c .any :: .c .any :: .c .any :: .c .any :: .c .any :: .c .any :: .c .any :: .c .any :: .c .any :: .c .any :: .c .any :: .c .any :: .c .any :: .c .any :: .c .any :: .c .any :: .c .any :: .c .any :: .c .any :: .c .any :: .c .any :: .c .any :: .c .any :: .c .any :: .c .any :: .c .any :: .c .any :: .c .any :: .c .any :: .c .any :: .c .any :: .c .any :: .c .any :: .c .any :: .c .any :: .c .any :: [], .box [.int .i64 g.n, .slice (eRows g.es) .none] :: .box [.int .i64 0, .nils] :: .chain n 1 :: (tabF n (gI (pairF g.es l) i k)).map rowB⟩ : St)) (fun k => i ≤ k ∧ k ≤ n) (fun k => n - k) (i) (Weak.head2 (m := n + 3) (by omega) ((fun t f => [f, t, t, f, t, t, t, t, f, f, f, f, f, f, f, f, f, f, f, f, f, f, f, f, f, f, f, f, f, f, f, f, f, f, f, f, f, f, f, f, f, f, f, f]) true false) (by first | rfl | (simp [mask]; done) | (simp [mask] <;> omega)) (by first | rfl | (simp; done) | (simp <;> omega)) (by (repeat' (first | exact valsIn_nil _ | exact blksIn_nil _ | exact cellsIn_nil _ | refine And.intro ?_ ?_ | refine valsIn_cons ?_ ?_ | refine blksIn_cons ?_ ?_ | refine cellsIn_cons ?_ ?_ | exact True.intro | exact refsT_in (by omega) | exact blksIn_rep | exact blksIn_tab | (show _ < _; omega) | exact cellsIn_map (fun _ => True.intro) | (intro c hc; cases hc; done) | (intro c hc; simp only [List.mem_cons, List.not_mem_nil, or_false] at hc; subst hc; exact True.intro))))) ?_ (fun k hI => ?_)
      · exact ⟨Nat.le_refl _, hi⟩
      · obtain ⟨hik, hk⟩ := hI
        by_cases hltk : k < n
        · have hltkI : (k : Int) < n := by omega
          have e0' := List.getElem?_eq_getElem (show k < l.length by omega)
          have e1' := iRows_get e0'
          have hlk : l.getD k 0 = l[k] := by rw [List.getD_eq_getElem?_getD, e0']; rfl
          generalize l[k] = v at *
          have hb := BetweenR_ok g u v hg
          have hpf : pairF g.es l i k = cntL g.es (min u v) (max u v) := by unfold pairF; rw [hli, hlk]
          have hr := refsT_get (base := 3) (n := n) hlt
          have hrow := tabF_row (gI (pairF g.es l) i k) hlt
          have hg1 := tab_get hrow
          have hset := tabF_set (gI (pairF g.es l) i k) hlt hltk (pairF g.es l i k)
          rw [gI_step _ hik, hpf] at hset
          have hrl : ((List.range n).map fun b => gI (pairF g.es l) i k i b).length = n := by simp
          have hTn : tabF n (gI (pairF g.es l) i (k + 1)) = tabF n (gI (pairF g.es l) i (k + 1)) := rfl
          generalize ((List.range n).map fun b => gI (pairF g.es l) i k i b) = row at *
          generalize tabF n (gI (pairF g.es l) i k) = T at *
          generalize cntL g.es (min u v) (max u v) = x at *
          repeat' (first
            | (with_reducible refine AWp.seq_region (fun K hK => ?_))
            | (with_reducible refine AWp.last_region (fun K hK => ?_))
            | (with_reducible refine AWp.seq_draw (by with_unfolding_all kernel_rfl) (fun K hK => ?_))
            | (with_reducible refine AWp.last_draw (by with_unfolding_all kernel_rfl) (fun K hK => ?_))
            | ((with_reducible first | refine vcEnd ?_ | refine vcEndD ?_ | refine vcEndM ?_); refine hK _ _ ?_; clear hK; clear K)
            | ((with_reducible first | refine vcStepN (by rfl) (by with_unfolding_all rfl) ?_ | refine vcStepND (by rfl) (by with_unfolding_all rfl) ?_ | refine vcStepNM (by rfl) (by with_unfolding_all rfl) ?_); try simp only [aput, List.set_cons_succ, List.set_cons_zero, List.length_cons, List.length_nil, List.length_append, List.cons_append, List.nil_append, Nat.reduceAdd, List.append_nil])
            | ((with_reducible first | refine vcStep (by rfl) (fun K' hK' => ?_) | refine vcStepD (by rfl) (fun K' hK' => ?_) | refine vcStepM (by rfl) (fun K' hK' => ?_) | refine vcStepG (by rfl) (by with_unfolding_all rfl) (fun hguard K' hK' => ?_) (fun hguard => ?_) | refine vcStepGD (by rfl) (by with_unfolding_all rfl) (fun hguard K' hK' => ?_) (fun hguard => ?_) | refine vcStepGM (by rfl) (by with_unfolding_all rfl) (fun hguard K' hK' => ?_) (fun hguard => ?_)) <;> ((try (replace hguard := hguard; (try simp only [decide_eq_true_eq, decide_eq_false_iff_not, Bool.not_eq_true', Bool.not_eq_false', Bool.not_true, Bool.not_false, Int.not_lt, Int.not_le, reduceCtorEq, Bool.true_eq_false, Bool.false_eq_true] at hguard); (try (exfalso; (try clear hK'); (try clear hK); omega)))) <;> ((try (simp +contextual only [go_sem, hltkI, iRows_len, hn, e1, e1', hr, hg1, Int.toNat_natCast, Nat.mul_one, iC_len, hrl, iC_set, tab_set, hset])); (repeat' (first | ((with_reducible refine hK' _ _ ?_); clear hK'; clear K') | ((with_reducible first | refine ⟨_, _, ACall.h (hb) (by with_unfolding_all rfl), ?_⟩ | refine ⟨_, ACall.h (hb) (by with_unfolding_all rfl), ?_⟩ | refine ⟨_, _, ACall.hb (hb) (by with_unfolding_all rfl) (by with_unfolding_all rfl), ?_⟩ | refine ⟨_, ACall.hb (hb) (by with_unfolding_all rfl) (by with_unfolding_all rfl), ?_⟩); (try simp +contextual only [go_sem, hltkI, iRows_len, hn, e1, e1', hr, hg1, Int.toNat_natCast, Nat.mul_one, iC_len, hrl, iC_set, tab_set, hset])) | (with_reducible refine And.intro ?_ ?_) | ((with_reducible intro hpath); try first | (exfalso; (try clear hK'); (try clear hK); omega) | (exact absurd hpath (by assumption))) | ((with_reducible first | refine gi1 ?_ | refine gi2 ?_ | refine gn1 ?_ | refine gn2 ?_ | refine gi3 ?_ | refine gn3 ?_ | refine gnot ?_); omega) | (with_reducible exact True.intro) | ((refine hK' _ _ ?_); clear hK'; clear K'))); (try simp only [aput, List.set_cons_succ, List.set_cons_zero, List.length_cons, List.length_nil, List.length_append, List.cons_append, List.nil_append, Nat.reduceAdd, List.append_nil]))))
            | (with_reducible refine AWp.seq ?_)
            | (with_reducible refine AWp.block ?_)
            | (with_reducible refine AWp.skip ?_)
            | (with_reducible refine AWp.ret ?_)
            | (with_reducible refine AWp.exit ?_)
            | (refine AWp.cond _ rfl (fun hcond => ?_) (fun hcond => ?_) <;> first | (simp only [reduceCtorEq, Bool.true_eq_false, Bool.false_eq_true] at hcond; done) | (simp only [decide_eq_true_eq, decide_eq_false_iff_not, Bool.not_eq_true', Bool.not_eq_false', Int.not_lt, Int.not_le] at hcond; try (exfalso; omega)) | skip)
            | (with_reducible refine AThen.n ?_)
            | (with_reducible refine AThen.r ?_)
            | (with_reducible refine AThen.e ?_)
            | (with_reducible refine AInBlock.n ?_)
            | (with_reducible refine AInBlock.r ?_)
            | (with_reducible refine AInBlock.hit ?_)
            | (with_reducible refine AInBlock.miss (by with_unfolding_all decide) ?_))
          refine ⟨k + 1, Weak.head2 (m := n + 3) (by omega) ((fun t f => [f, t, t, f, t, t, t, t, f, f, f, f, f, f, f, f, f, f, f, f, f, f, f, f, f, f, f, f, f, f, f, f, f, f, f, f, f, f, f, f, f, f, f, f]) true false) (by first | rfl | (simp [mask]; done) | (simp [mask] <;> simp_all <;> omega)) (by first | rfl | (simp [mask]; done) | (simp [mask] <;> simp_all <;> omega)) (by (repeat' (first | exact valsIn_nil _ | exact blksIn_nil _ | exact cellsIn_nil _ | refine And.intro ?_ ?_ | refine valsIn_cons ?_ ?_ | refine blksIn_cons ?_ ?_ | refine cellsIn_cons ?_ ?_ | exact True.intro | exact refsT_in (by omega) | exact blksIn_rep | exact blksIn_tab | (show _ < _; omega) | exact cellsIn_map (fun _ => True.intro) | (intro c hc; cases hc; done) | (intro c hc; simp only [List.mem_cons, List.not_mem_nil, or_false] at hc; subst hc; exact True.intro)))), ?_, ?_⟩
          · exact ⟨by omega, hltk⟩
          · omega
        · have ek : k = n := by omega
          have hnl : ¬ ((k : Int) < n) := by omega
          rw [ek]
          rw [ek] at hnl
          have hrow := gI_row (n := n) (pairF g.es l) i
          rw [hrow]
          repeat' (first
            | (with_reducible refine AWp.seq_region (fun K hK => ?_))
            | (with_reducible refine AWp.last_region (fun K hK => ?_))
            | (with_reducible refine AWp.seq_draw (by with_unfolding_all kernel_rfl) (fun K hK => ?_))
            | (with_reducible refine AWp.last_draw (by with_unfolding_all kernel_rfl) (fun K hK => ?_))
            | ((with_reducible first | refine vcEnd ?_ | refine vcEndD ?_ | refine vcEndM ?_); refine hK _ _ ?_; clear hK; clear K)
            | ((with_reducible first | refine vcStepN (by rfl) (by with_unfolding_all rfl) ?_ | refine vcStepND (by rfl) (by with_unfolding_all rfl) ?_ | refine vcStepNM (by rfl) (by with_unfolding_all rfl) ?_); try simp only [aput, List.set_cons_succ, List.set_cons_zero, List.length_cons, List.length_nil, List.length_append, List.cons_append, List.nil_append, Nat.reduceAdd, List.append_nil])
            | ((with_reducible first | refine vcStep (by rfl) (fun K' hK' => ?_) | refine vcStepD (by rfl) (fun K' hK' => ?_) | refine vcStepM (by rfl) (fun K' hK' => ?_) | refine vcStepG (by rfl) (by with_unfolding_all rfl) (fun hguard K' hK' => ?_) (fun hguard => ?_) | refine vcStepGD (by rfl) (by with_unfolding_all rfl) (fun hguard K' hK' => ?_) (fun hguard => ?_) | refine vcStepGM (by rfl) (by with_unfolding_all rfl) (fun hguard K' hK' => ?_) (fun hguard => ?_)) <;> ((try (replace hguard := hguard; (try simp only [decide_eq_true_eq, decide_eq_false_iff_not, Bool.not_eq_true', Bool.not_eq_false', Bool.not_true, Bool.not_false, Int.not_lt, Int.not_le, reduceCtorEq, Bool.true_eq_false, Bool.false_eq_true] at hguard); (try (exfalso; (try clear hK'); (try clear hK); omega)))) <;> ((try (simp +contextual only [go_sem, hnl, iRows_len, hn])); (repeat' (first | ((with_reducible refine hK' _ _ ?_); clear hK'; clear K') | (with_reducible refine And.intro ?_ ?_) | ((with_reducible intro hpath); try first | (exfalso; (try clear hK'); (try clear hK); omega) | (exact absurd hpath (by assumption))) | ((with_reducible first | refine gi1 ?_ | refine gi2 ?_ | refine gn1 ?_ | refine gn2 ?_ | refine gi3 ?_ | refine gn3 ?_ | refine gnot ?_); omega) | (with_reducible exact True.intro) | ((refine hK' _ _ ?_); clear hK'; clear K'))); (try simp only [aput, List.set_cons_succ, List.set_cons_zero, List.length_cons, List.length_nil, List.length_append, List.cons_append, List.nil_append, Nat.reduceAdd, List.append_nil]))))
            | (with_reducible refine AWp.seq ?_)
            | (with_reducible refine AWp.block ?_)
            | (with_reducible refine AWp.skip ?_)
            | (with_reducible refine AWp.ret ?_)
            | (with_reducible refine AWp.exit ?_)
            | (refine AWp.cond _ rfl (fun hcond => ?_) (fun hcond => ?_) <;> first | (simp only [reduceCtorEq, Bool.true_eq_false, Bool.false_eq_true] at hcond; done) | (simp only [decide_eq_true_eq, decide_eq_false_iff_not, Bool.not_eq_true', Bool.not_eq_false', Int.not_lt, Int.not_le] at hcond; try (exfalso; omega)) | skip)
            | (with_reducible refine AThen.n ?_)
            | (with_reducible refine AThen.r ?_)
            | (with_reducible refine AThen.e ?_)
            | (with_reducible refine AInBlock.n ?_)
            | (with_reducible refine AInBlock.r ?_)
            | (with_reducible refine AInBlock.hit ?_)
            | (with_reducible refine AInBlock.miss (by with_unfolding_all decide) ?_))
          refine ⟨i + 1, Weak.head2 (m := n + 3) (by omega) ((fun t f => [f, t, t, f, t, t, t, f, f, f, f, f, f, f, f, f, f, f, f, f, f, f, f, f, f, f, f, f, f, f, f, f, f, f, f, f, f, f, f, f, f, f, f, f]) true false) (by first | rfl | (simp [mask]; done) | (simp [mask] <;> simp_all <;> omega)) (by first | rfl | (simp [mask]; done) | (simp [mask] <;> simp_all <;> omega)) (by (repeat' (first | exact valsIn_nil _ | exact blksIn_nil _ | exact cellsIn_nil _ | refine And.intro ?_ ?_ | refine valsIn_cons ?_ ?_ | refine blksIn_cons ?_ ?_ | refine cellsIn_cons ?_ ?_ | exact True.intro | exact refsT_in (by omega) | exact blksIn_rep | exact blksIn_tab | (show _ < _; omega) | exact cellsIn_map (fun _ => True.intro) | (intro c hc; cases hc; done) | (intro c hc; simp only [List.mem_cons, List.not_mem_nil, or_false] at hc; subst hc; exact True.intro)))), ?_, ?_⟩
          · exact hlt
          · omega
    · have ei : i = n := by omega
      have hnl : ¬ ((i : Int) < n) := by omega
      rw [ei]
      rw [ei] at hnl
      have hjc := joinE_congr (f := cellT (tabF n (gI (pairF g.es l) n n))) (g := pairF g.es l) (n := n) (fun a b hab hb => by
        rw [tabF_cell _ (by omega) hb]; unfold gI; exact if_pos ⟨hab, .inl (by omega)⟩) n (Nat.le_refl _)
      have hJ := Joined_ok n (tabF n (gI (pairF g.es l) n n)) (by omega) (tabF_sq _ _)
      rw [hjc] at hJ
      refine table_data [.box [.int .i64 g.n, .slice (eRows g.es) .none], .box [.int .i64 0, .nils], .chain n 1] 5 (.chain 2) n (tabF n (gI (pairF g.es l) n n)) (tabF_sq _ _) rfl ?_
      simp only [List.set_cons_succ, List.set_cons_zero, List.cons_append, List.nil_append]
      repeat' (first
        | (with_reducible refine AWp.seq_region (fun K hK => ?_))
        | (with_reducible refine AWp.last_region (fun K hK => ?_))
        | (with_reducible refine AWp.seq_draw (by with_unfolding_all kernel_rfl) (fun K hK => ?_))
        | (with_reducible refine AWp.last_draw (by with_unfolding_all kernel_rfl) (fun K hK => ?_))
        | ((with_reducible first | refine vcEnd ?_ | refine vcEndD ?_ | refine vcEndM ?_); refine hK _ _ ?_; clear hK; clear K)
        | ((with_reducible first | refine vcStepN (by rfl) (by with_unfolding_all rfl) ?_ | refine vcStepND (by rfl) (by with_unfolding_all rfl) ?_ | refine vcStepNM (by rfl) (by with_unfolding_all rfl) ?_); try simp only [aput, List.set_cons_succ, List.set_cons_zero, List.length_cons, List.length_nil, List.length_append, List.cons_append, List.nil_append, Nat.reduceAdd, List.append_nil])
        | ((with_reducible first | refine vcStep (by rfl) (fun K' hK' => ?_) | refine vcStepD (by rfl) (fun K' hK' => ?_) | refine vcStepM (by rfl) (fun K' hK' => ?_) | refine vcStepG (by rfl) (by with_unfolding_all rfl) (fun hguard K' hK' => ?_) (fun hguard => ?_) | refine vcStepGD (by rfl) (by with_unfolding_all rfl) (fun hguard K' hK' => ?_) (fun hguard => ?_) | refine vcStepGM (by rfl) (by with_unfolding_all rfl) (fun hguard K' hK' => ?_) (fun hguard => ?_)) <;> ((try (replace hguard := hguard; (try simp only [decide_eq_true_eq, decide_eq_false_iff_not, Bool.not_eq_true', Bool.not_eq_false', Bool.not_true, Bool.not_false, Int.not_lt, Int.not_le, reduceCtorEq, Bool.true_eq_false, Bool.false_eq_true] at hguard); (try (exfalso; (try clear hK'); (try clear hK); omega)))) <;> ((try (simp +contextual only [go_sem, hnl, iRows_len, hn])); (repeat' (first | ((with_reducible refine hK' _ _ ?_); clear hK'; clear K') | ((with_reducible first | refine ⟨_, _, ACall.h (hJ) (by with_unfolding_all rfl), ?_⟩ | refine ⟨_, ACall.h (hJ) (by with_unfolding_all rfl), ?_⟩ | refine ⟨_, _, ACall.hb (hJ) (by with_unfolding_all rfl) (by with_unfolding_all rfl), ?_⟩ | refine ⟨_, ACall.hb (hJ) (by with_unfolding_all rfl) (by with_unfolding_all rfl), ?_⟩); (try simp +contextual only [go_sem, hnl, iRows_len, hn])) | (with_reducible refine And.intro ?_ ?_) | ((with_reducible intro hpath); try first | (exfalso; (try clear hK'); (try clear hK); omega) | (exact absurd hpath (by assumption))) | ((with_reducible first | refine gi1 ?_ | refine gi2 ?_ | refine gn1 ?_ | refine gn2 ?_ | refine gi3 ?_ | refine gn3 ?_ | refine gnot ?_); omega) | (with_reducible exact True.intro) | ((refine hK' _ _ ?_); clear hK'; clear K'))); (try simp only [aput, List.set_cons_succ, List.set_cons_zero, List.length_cons, List.length_nil, List.length_append, List.cons_append, List.nil_append, Nat.reduceAdd, List.append_nil]))))
        | (with_reducible refine AWp.seq ?_)
        | (with_reducible refine AWp.block ?_)
        | (with_reducible refine AWp.skip ?_)
        | (with_reducible refine AWp.ret ?_)
        | (with_reducible refine AWp.exit ?_)
        | (refine AWp.cond _ rfl (fun hcond => ?_) (fun hcond => ?_) <;> first | (simp only [reduceCtorEq, Bool.true_eq_false, Bool.false_eq_true] at hcond; done) | (simp only [decide_eq_true_eq, decide_eq_false_iff_not, Bool.not_eq_true', Bool.not_eq_false', Int.not_lt, Int.not_le] at hcond; try (exfalso; omega)) | skip)
        | (with_reducible refine AThen.n ?_)
        | (with_reducible refine AThen.r ?_)
        | (with_reducible refine AThen.e ?_)
        | (with_reducible refine AInBlock.n ?_)
        | (with_reducible refine AInBlock.r ?_)
        | (with_reducible refine AInBlock.hit ?_)
        | (with_reducible refine AInBlock.miss (by with_unfolding_all decide) ?_))
      simp [Rets, aret, Blk.cells, ty, Try.results32, ares, toT1, toT, borrow, borrow0, capCell, toTree0, tG]
end Go.Proofs.Ytbdpkgckdkpepaa
