/- A part of the proof: contracts of functions of the program, or plain lemmas. -/
import Derived.Test.YtbdpkgckdkpepaaG9
import Derived.Test.YtbdpkgckdkpepaaLayerB
set_option linter.all false
namespace Go.Proofs.Ytbdpkgckdkpepaa
open Go.Sp
set_option linter.unusedSimpArgs false
set_option linter.unusedVariables false
set_option maxHeartbeats 4000000
set_option maxRecDepth 100000


theorem map83 : tMap Try.prog 83 = some (76, 3) := by simp only [ty]
theorem zero3 : tZero Try.prog 3 = some (.int .i64 0) := by simp only [ty]
def cntL : List E → Int → Int → Int
  | [], _, _ => 0
  | x :: xs, a, b => if x.a = a ∧ x.b = b then x.m else cntL xs a b
def bagPut : List E → Int → Int → Int → List E
  | [], a, b, m => [⟨a, b, m⟩]
  | x :: xs, a, b, m => if x.a = a ∧ x.b = b then ⟨a, b, m⟩ :: xs else x :: bagPut xs a b m
theorem key_eq (x : E) (a b : Int) : ((kvE x).1 == MKey.ints [a, b]) = decide (x.a = a ∧ x.b = b) := by
  rw [Bool.eq_iff_iff]; simp [kvE]
theorem mIdx_cons (x : E) (xs : List E) (a b : Int) : mIdx (mE (x :: xs)) (.ints [a, b]) = if x.a = a ∧ x.b = b then some 0 else (mIdx (mE xs) (.ints [a, b])).map (· + 1) := by
  simp only [mIdx, mE, List.map_cons, List.findIdx?_cons, key_eq]
  by_cases h : x.a = a ∧ x.b = b <;> simp [h]
theorem mVal_mE (es : List E) (a b : Int) : mVal (mE es) (.ints [a, b]) (.c (.int .i64 0)) = .c (.int .i64 (cntL es a b)) := by
  induction es with
  | nil => simp [mVal, mIdx, mE, cntL]
  | cons x xs ih =>
    unfold mVal at ih ⊢
    rw [mIdx_cons]
    by_cases h : x.a = a ∧ x.b = b
    · simp [h, cntL, mE, kvE]
    · rw [if_neg h]
      simp only [cntL, if_neg h, ← ih]
      cases hx : mIdx (mE xs) (.ints [a, b]) with
      | none => rfl
      | some j => simp [mE]
theorem mPut_mE (es : List E) (a b m : Int) : mPut (mE es) (.ints [a, b]) (.c (.int .i64 m)) = mE (bagPut es a b m) := by
  induction es with
  | nil => simp [mPut, mIdx, mE, bagPut, kvE]
  | cons x xs ih =>
    unfold mPut at ih ⊢
    rw [mIdx_cons]
    by_cases h : x.a = a ∧ x.b = b
    · simp [h, bagPut, mE, kvE]
    · rw [if_neg h]
      simp only [bagPut, if_neg h]
      have e : mE (x :: bagPut xs a b m) = kvE x :: mE (bagPut xs a b m) := rfl
      rw [e, ← ih]
      cases hx : mIdx (mE xs) (.ints [a, b]) with
      | none => simp [mE]
      | some j => simp [mE]
def bagStep (es : List E) (p : Int × Int) : List E := bagPut es (min p.1 p.2) (max p.1 p.2) (cntL es (min p.1 p.2) (max p.1 p.2) + 1)
def bagL (l : List (Int × Int)) : List E := l.foldl bagStep []
theorem mStamp_lt (es : List (MKey × MV)) (k : MKey) (z : MV) : mStamp es k < (mAdd es k z).length := by
  unfold mStamp mAdd mHas
  cases h : mIdx es k with
  | none => simp
  | some i =>
    obtain ⟨v, hv⟩ := mIdx_some h
    have := (List.getElem?_eq_some_iff.1 hv).1
    simpa using this
theorem bagL_snoc (l : List (Int × Int)) (p : Int × Int) : bagL (l ++ [p]) = bagStep (bagL l) p := by simp [bagL]
theorem bagPut_mem {es : List E} {a b m : Int} {e : E} (h : e ∈ bagPut es a b m) : e ∈ es ∨ e = ⟨a, b, m⟩ := by
  induction es with
  | nil => simp [bagPut] at h; exact .inr h
  | cons x xs ih =>
    simp only [bagPut] at h
    split at h
    · rcases List.mem_cons.1 h with h | h
      · exact .inr h
      · exact .inl (by simp [h])
    · rcases List.mem_cons.1 h with h | h
      · exact .inl (by simp [h])
      · rcases ih h with h | h
        · exact .inl (by simp [h])
        · exact .inr h
theorem bagPut_distinct {es : List E} {a b m : Int} (h : distinctE es) : distinctE (bagPut es a b m) := by
  induction es with
  | nil => simp [bagPut, distinctE]
  | cons x xs ih =>
    unfold distinctE at *
    rw [List.pairwise_cons] at h
    simp only [bagPut]
    split
    · rename_i hx
      refine List.pairwise_cons.2 ⟨fun y hy => ?_, h.2⟩
      have := h.1 y hy
      unfold neE at *; simp only; omega
    · rename_i hx
      refine List.pairwise_cons.2 ⟨fun y hy => ?_, ih h.2⟩
      rcases bagPut_mem hy with hy | hy
      · exact h.1 y hy
      · subst hy; unfold neE; simp only; omega
theorem bagPut_len (es : List E) (a b m : Int) : (bagPut es a b m).length ≤ es.length + 1 := by
  induction es with
  | nil => simp [bagPut]
  | cons x xs ih => simp only [bagPut]; split <;> simp <;> omega
theorem cntL_le {es : List E} {a b k : Int} (h : ∀ e, e ∈ es → e.m ≤ k) (hk : 0 ≤ k) : cntL es a b ≤ k := by
  induction es with
  | nil => simpa [cntL] using hk
  | cons x xs ih => simp only [cntL]; split; exact h x (by simp); exact ih fun e he => h e (by simp [he])
theorem cntL_ge {es : List E} {a b : Int} (h : ∀ e, e ∈ es → 1 ≤ e.m) : 0 ≤ cntL es a b := by
  induction es with
  | nil => simp [cntL]
  | cons x xs ih => simp only [cntL]; split; have := h x (by simp); omega; exact ih fun e he => h e (by simp [he])
structure BagOk (n : Int) (k : Nat) (es : List E) : Prop where
  d : distinctE es
  len : es.length ≤ k
  m : ∀ e, e ∈ es → 1 ≤ e.m ∧ e.m ≤ k
  r : ∀ e, e ∈ es → 0 ≤ e.a ∧ e.a ≤ e.b ∧ e.b < n
theorem bag_step {n : Int} {k : Nat} {es : List E} (h : BagOk n k es) {p : Int × Int} (h1 : 0 ≤ p.1 ∧ p.1 < n) (h2 : 0 ≤ p.2 ∧ p.2 < n) : BagOk n (k + 1) (bagStep es p) := by
  have c1 := cntL_le (a := min p.1 p.2) (b := max p.1 p.2) (k := k) (fun e he => (h.m e he).2) (by omega)
  have c2 := cntL_ge (a := min p.1 p.2) (b := max p.1 p.2) (fun e he => (h.m e he).1)
  refine ⟨bagPut_distinct h.d, Nat.le_trans (bagPut_len ..) (by have := h.len; omega), fun e he => ?_, fun e he => ?_⟩
  · rcases bagPut_mem he with he | rfl
    · have := h.m e he; omega
    · simp only; omega
  · rcases bagPut_mem he with he | rfl
    · exact h.r e he
    · simp only; omega
theorem bag_keys {n : Int} {k : Nat} {es : List E} (hn : n ≤ 12) (h : BagOk n k es) : ∀ e, e ∈ mE es → (KShape.ints 2).ok e.1 = true := by
  intro e he
  obtain ⟨x, hx, rfl⟩ := List.mem_map.1 he
  have := h.r x hx
  simp only [KShape.ok, kvE, List.length_cons, List.length_nil, Bool.and_eq_true, beq_iff_eq, List.all_eq_true, List.mem_cons, List.not_mem_nil, or_false, decide_eq_true_eq]
  exact ⟨trivial, fun y hy => by rcases hy with rfl | rfl <;> omega⟩
theorem key_ok {a b : Int} (h1 : 0 ≤ a ∧ a < 12) (h2 : 0 ≤ b ∧ b < 12) : (KShape.ints 2).ok (.ints [a, b]) = true := by
  simp only [KShape.ok, List.length_cons, List.length_nil, Bool.and_eq_true, beq_iff_eq, List.all_eq_true, List.mem_cons, List.not_mem_nil, or_false, decide_eq_true_eq]
  exact ⟨trivial, fun y hy => by rcases hy with rfl | rfl <;> omega⟩
open Classical in
noncomputable def makeE (n : Int) (l : List (Int × Int)) : G × Int :=
  if n < 1 ∨ 12 < n then (⟨0, []⟩, 2) else if 4096 < l.length then (⟨0, []⟩, 5)
  else if ∃ p, p ∈ l ∧ ¬ ((0 ≤ p.1 ∧ p.1 < n) ∧ (0 ≤ p.2 ∧ p.2 < n)) then (⟨0, []⟩, 2)
  else if ∃ e, e ∈ bagL l ∧ 50 < e.m then (⟨0, []⟩, 5) else (⟨n, sortE (bagL l)⟩, 0)
theorem pRows_get {l : List (Int × Int)} {i : Nat} {p : Int × Int} (h : l[i]? = some p) : (pRows l)[i]? = some [.int .i64 p.1, .int .i64 p.2] := by simp [pRows, pRow, h]
theorem Make_ok (n : Int) (l : List (Int × Int)) (hl : l.length < 2 ^ 40) : ACall Try.prog 23 [tint n, tpairs l] (.tup [tG (makeE n l).1, tint (makeE n l).2]) := by
  refine ACall.of_body Try.func23 rfl (by kernel_rfl) ?_
  simp only [entry, Try.ntmps23, ofT, ofT1, ofTree, List.map_cons, List.map_nil, List.length_cons, List.length_nil, Nat.reduceAdd, Nat.reduceSub, List.replicate_succ, List.replicate_zero, List.cons_append, List.nil_append, tint, tpairs]
  repeat' (first
    | (with_reducible refine AWp.seq_region (fun K hK => ?_))
    | (with_reducible refine AWp.last_region (fun K hK => ?_))
    | (with_reducible refine AWp.seq_draw (by with_unfolding_all kernel_rfl) (fun K hK => ?_))
    | (with_reducible refine AWp.last_draw (by with_unfolding_all kernel_rfl) (fun K hK => ?_))
    | ((with_reducible first | refine vcEnd ?_ | refine vcEndD ?_ | refine vcEndM ?_); refine hK _ _ ?_; clear hK; clear K)
    | ((with_reducible first | refine vcStepN (by rfl) (by with_unfolding_all rfl) ?_ | refine vcStepND (by rfl) (by with_unfolding_all rfl) ?_ | refine vcStepNM (by rfl) (by with_unfolding_all rfl) ?_); try simp only [aput, List.set_cons_succ, List.set_cons_zero, List.length_cons, List.length_nil, List.length_append, List.cons_append, List.nil_append, Nat.reduceAdd, List.append_nil])
    | ((with_reducible first | refine vcStep (by rfl) (fun K' hK' => ?_) | refine vcStepD (by rfl) (fun K' hK' => ?_) | refine vcStepM (by rfl) (fun K' hK' => ?_) | refine vcStepG (by rfl) (by with_unfolding_all rfl) (fun hguard K' hK' => ?_) (fun hguard => ?_) | refine vcStepGD (by rfl) (by with_unfolding_all rfl) (fun hguard K' hK' => ?_) (fun hguard => ?_) | refine vcStepGM (by rfl) (by with_unfolding_all rfl) (fun hguard K' hK' => ?_) (fun hguard => ?_)) <;> ((try (replace hguard := hguard; (try simp only [decide_eq_true_eq, decide_eq_false_iff_not, Bool.not_eq_true', Bool.not_eq_false', Bool.not_true, Bool.not_false, Int.not_lt, Int.not_le, reduceCtorEq, Bool.true_eq_false, Bool.false_eq_true] at hguard); (try (exfalso; (try clear hK'); (try clear hK); omega)))) <;> ((try (simp +contextual only [go_sem, pRows_len, Int.ofNat_lt])); (repeat' (first | ((with_reducible refine hK' _ _ ?_); clear hK'; clear K') | (with_reducible refine And.intro ?_ ?_) | ((with_reducible intro hpath); try first | (exfalso; (try clear hK'); (try clear hK); omega) | (exact absurd hpath (by assumption))) | ((with_reducible first | refine gi1 ?_ | refine gi2 ?_ | refine gn1 ?_ | refine gn2 ?_ | refine gi3 ?_ | refine gn3 ?_ | refine gnot ?_); omega) | (with_reducible exact True.intro) | ((refine hK' _ _ ?_); clear hK'; clear K'))); (try simp only [aput, List.set_cons_succ, List.set_cons_zero, List.length_cons, List.length_nil, List.length_append, List.cons_append, List.nil_append, Nat.reduceAdd, List.append_nil]))))
    | (with_reducible refine AWp.seq ?_)
    | (with_reducible refine AWp.block ?_)
    | (with_reducible refine AWp.skip ?_)
    | (with_reducible refine AWp.ret ?_)
    | (with_reducible refine AWp.exit ?_)
    | (refine AWp.cond _ rfl (fun hcond => ?_) (fun hcond => ?_) <;> first | (simp only [reduceCtorEq, Bool.true_eq_false, Bool.false_eq_true] at hcond; done) | (simp only [decide_eq_true_eq, decide_eq_false_iff_not, Bool.not_eq_true', Bool.not_eq_false', Int.not_lt, Int.not_le] at hcond; try (exfalso; omega)) | skip)
    | (with_reducible refine AThen.n ?_)
    | (with_reducible refine AThen.r ?_)
    | (with_reducible refine AThen.e ?_)
    | (with_reducible refine AInBlock.n ?_)
    | (with_reducible refine AInBlock.r ?_)
    | (with_reducible refine AInBlock.hit ?_)
    | (with_reducible refine AInBlock.miss (by with_unfolding_all decide) ?_))
  · have e : makeE n l = (⟨0, []⟩, 2) := by unfold makeE; rw [if_pos (by omega)]
    simp [Rets, aret, Blk.cells, ty, Try.results23, ares, toT1, toT, borrow, borrow0, capCell, toTree0, tint, tG, e, eRows]
  · have e : makeE n l = (⟨0, []⟩, 5) := by unfold makeE; rw [if_neg (by omega), if_pos (by omega)]
    simp [Rets, aret, Blk.cells, ty, Try.results23, ares, toT1, toT, borrow, borrow0, capCell, toTree0, tint, tG, e, eRows]
  · have hl2 : l.length ≤ 4096 := by omega
    refine AWp.loopx (α := Nat) (fun i => (⟨.c (.int .i64 n) :: .c .any :: .c .any :: .c .any :: .c (.ptr 0 0) :: .c .any :: .c (.map 1) :: .c .any :: .c .any :: .c .any :: .c .any :: .c .any :: .c .any :: .c .any :: .c .any :: .c .any :: .c .any :: .c .any :: .c .any :: .c .any :: .c .any :: .c .any :: .c .any :: .c (.slice (pRows l) .none) :: .c (.int .i64 (l.length : Int)) :: .c (.int .i64 (i : Int)) :: .c .any :: .c .any :: .c .any :: .c .any :: .c .any :: .c .any :: .c .any :: .c .any :: .c .any :: .c .any :: .c .any :: .c .any :: .c .any :: .c .any :: .c .any :: .c .any :: .c .any :: .c .any :: .c .any :: .c .any :: .c .any :: .c .any :: .c .any :: .c .any :: .c .any :: .c .any :: .c .any :: .c .any :: .c .any :: .c .any :: .c .any :: .c .any :: .c .any :: .c .any :: .c .any :: .c .any :: .c .any :: .c .any :: .c .any :: [], [.box [.int .i64 0, .nils], .map (mE (bagL (l.take i)))]⟩ : St)) (fun i => i ≤ l.length ∧ (∀ j, j < i → ∀ p, l[j]? = some p → (0 ≤ p.1 ∧ p.1 < n) ∧ (0 ≤ p.2 ∧ p.2 < n)) ∧ BagOk n i (bagL (l.take i))) (fun i => l.length - i) (0) (Weak.head2 (m := 2) (by omega) ((fun t f => [t, f, f, f, t, f, t, f, f, f, f, f, f, f, f, f, f, f, f, f, f, f, f, t, t, t, f, f, f, f, f, f, f, f, f, f, f, f, f, f, f, f, f, f, f, f, f, f, f, f, f, f, f, f, f, f, f, f, f, f, f, f, f, f, f]) true false) (by first | rfl | (simp [mask]; done) | (simp [mask] <;> omega)) (by first | rfl | (simp; done) | (simp <;> omega)) (by (repeat' (first | exact valsIn_nil _ | exact blksIn_nil _ | exact cellsIn_nil _ | refine And.intro ?_ ?_ | refine valsIn_cons ?_ ?_ | refine blksIn_cons ?_ ?_ | refine cellsIn_cons ?_ ?_ | exact True.intro | (show _ < _; omega) | exact cellsIn_map (fun _ => True.intro) | (intro c hc; cases hc; done) | (intro c hc; simp only [List.mem_cons, List.not_mem_nil, or_false] at hc; subst hc; exact True.intro))))) ?_ (fun i hI => ?_)
    · refine ⟨Nat.zero_le _, fun j hj => by omega, ?_⟩
      simp only [List.take_zero, bagL, List.foldl_nil]
      exact ⟨List.Pairwise.nil, by simp, by simp, by simp⟩
    · obtain ⟨hi, hval, hbag⟩ := hI
      by_cases hlt : i < l.length
      · have e0 := List.getElem?_eq_getElem hlt
        have e1 := pRows_get e0
        have hsn : l.take (i + 1) = l.take i ++ [l[i]] := List.take_succ_eq_append_getElem hlt
        generalize l[i] = p at *
        by_cases hv : (0 ≤ p.1 ∧ p.1 < n) ∧ (0 ≤ p.2 ∧ p.2 < n)
        · have hk := key_ok (a := min p.1 p.2) (b := max p.1 p.2) (by omega) (by omega)
          have hks := bag_keys (by omega) hbag
          have hc1 := cntL_le (a := min p.1 p.2) (b := max p.1 p.2) (k := i) (fun e he => (hbag.m e he).2) (by omega)
          have hc2 := cntL_ge (a := min p.1 p.2) (b := max p.1 p.2) (fun e he => (hbag.m e he).1)
          have hst := bag_step hbag hv.1 hv.2
          rw [← bagL_snoc, ← hsn] at hst
          have hnx : bagL (l.take (i + 1)) = bagStep (bagL (l.take i)) p := by rw [hsn, bagL_snoc]
          generalize bagL (l.take i) = es at *
          repeat' (first
            | (with_reducible refine AWp.seq_drawM map83 kl76 zero3 (by with_unfolding_all rfl) (by with_unfolding_all kernel_rfl) (fun K hK => ?_))
            | (with_reducible refine AWp.last_drawM map83 kl76 zero3 (by with_unfolding_all rfl) (by with_unfolding_all kernel_rfl) (fun K hK => ?_))
            | (with_reducible refine AWp.seq_region (fun K hK => ?_))
            | (with_reducible refine AWp.last_region (fun K hK => ?_))
            | (with_reducible refine AWp.seq_draw (by with_unfolding_all kernel_rfl) (fun K hK => ?_))
            | (with_reducible refine AWp.last_draw (by with_unfolding_all kernel_rfl) (fun K hK => ?_))
            | ((with_reducible first | refine vcEnd ?_ | refine vcEndD ?_ | refine vcEndM ?_); refine hK _ _ ?_; clear hK; clear K)
            | ((with_reducible first | refine vcStepN (by rfl) (by with_unfolding_all rfl) ?_ | refine vcStepND (by rfl) (by with_unfolding_all rfl) ?_ | refine vcStepNM (by rfl) (by with_unfolding_all rfl) ?_); try simp only [aput, List.set_cons_succ, List.set_cons_zero, List.length_cons, List.length_nil, List.length_append, List.cons_append, List.nil_append, Nat.reduceAdd, List.append_nil])
            | ((with_reducible first | refine vcStep (by rfl) (fun K' hK' => ?_) | refine vcStepD (by rfl) (fun K' hK' => ?_) | refine vcStepM (by rfl) (fun K' hK' => ?_) | refine vcStepG (by rfl) (by with_unfolding_all rfl) (fun hguard K' hK' => ?_) (fun hguard => ?_) | refine vcStepGD (by rfl) (by with_unfolding_all rfl) (fun hguard K' hK' => ?_) (fun hguard => ?_) | refine vcStepGM (by rfl) (by with_unfolding_all rfl) (fun hguard K' hK' => ?_) (fun hguard => ?_)) <;> ((try (replace hguard := hguard; (try simp only [decide_eq_true_eq, decide_eq_false_iff_not, Bool.not_eq_true', Bool.not_eq_false', Bool.not_true, Bool.not_false, Int.not_lt, Int.not_le, reduceCtorEq, Bool.true_eq_false, Bool.false_eq_true] at hguard); (try (exfalso; (try clear hK'); (try clear hK); omega)))) <;> ((try (simp +contextual only [go_sem, e1, Int.toNat_natCast, Int.ofNat_lt, pRows_len, toKey, mVal_mE, hv.1, hv.2, mSet_mAdd, mPut_mE])); (repeat' (first | ((with_reducible refine hK' _ _ ?_); clear hK'; clear K') | ((with_reducible first | refine ⟨_, _, ACall.h (vertex_ok _ _) (by with_unfolding_all rfl), ?_⟩ | refine ⟨_, ACall.h (vertex_ok _ _) (by with_unfolding_all rfl), ?_⟩ | refine ⟨_, _, ACall.hb (vertex_ok _ _) (by with_unfolding_all rfl) (by with_unfolding_all rfl), ?_⟩ | refine ⟨_, ACall.hb (vertex_ok _ _) (by with_unfolding_all rfl) (by with_unfolding_all rfl), ?_⟩ | refine ⟨_, _, ACall.h (joined_ok _ _) (by with_unfolding_all rfl), ?_⟩ | refine ⟨_, ACall.h (joined_ok _ _) (by with_unfolding_all rfl), ?_⟩ | refine ⟨_, _, ACall.hb (joined_ok _ _) (by with_unfolding_all rfl) (by with_unfolding_all rfl), ?_⟩ | refine ⟨_, ACall.hb (joined_ok _ _) (by with_unfolding_all rfl) (by with_unfolding_all rfl), ?_⟩); (try simp +contextual only [go_sem, e1, Int.toNat_natCast, Int.ofNat_lt, pRows_len, toKey, mVal_mE, hv.1, hv.2, mSet_mAdd, mPut_mE])) | (exact hk) | (exact hks) | ((with_reducible first | refine ⟨_, rfl, ?_⟩); (try simp +contextual only [go_sem, e1, Int.toNat_natCast, Int.ofNat_lt, pRows_len, toKey, mVal_mE, hv.1, hv.2, mSet_mAdd, mPut_mE])) | (exact mStamp_lt _ _ _) | (with_reducible refine And.intro ?_ ?_) | ((with_reducible intro hpath); try first | (exfalso; (try clear hK'); (try clear hK); omega) | (exact absurd hpath (by assumption))) | ((with_reducible first | refine gi1 ?_ | refine gi2 ?_ | refine gn1 ?_ | refine gn2 ?_ | refine gi3 ?_ | refine gn3 ?_ | refine gnot ?_); omega) | (with_reducible exact True.intro) | ((refine hK' _ _ ?_); clear hK'; clear K'))); (try simp only [aput, List.set_cons_succ, List.set_cons_zero, List.length_cons, List.length_nil, List.length_append, List.cons_append, List.nil_append, Nat.reduceAdd, List.append_nil]))))
            | (with_reducible refine AWp.seq ?_)
            | (with_reducible refine AWp.block ?_)
            | (with_reducible refine AWp.skip ?_)
            | (with_reducible refine AWp.ret ?_)
            | (with_reducible refine AWp.exit ?_)
            | (refine AWp.cond _ rfl (fun hcond => ?_) (fun hcond => ?_) <;> first | (simp only [reduceCtorEq, Bool.true_eq_false, Bool.false_eq_true] at hcond; done) | (simp only [decide_eq_true_eq, decide_eq_false_iff_not, Bool.not_eq_true', Bool.not_eq_false', Int.not_lt, Int.not_le] at hcond; try (exfalso; omega)) | skip)
            | (with_reducible refine AThen.n ?_)
            | (with_reducible refine AThen.r ?_)
            | (with_reducible refine AThen.e ?_)
            | (with_reducible refine AInBlock.n ?_)
            | (with_reducible refine AInBlock.r ?_)
            | (with_reducible refine AInBlock.hit ?_)
            | (with_reducible refine AInBlock.miss (by with_unfolding_all decide) ?_))
          refine ⟨i + 1, Weak.head2 (m := 2) (by omega) ((fun t f => [t, f, f, f, t, f, t, f, f, f, f, f, f, f, f, f, f, f, f, f, f, f, f, t, t, t, f, f, f, f, f, f, f, f, f, f, f, f, f, f, f, f, f, f, f, f, f, f, f, f, f, f, f, f, f, f, f, f, f, f, f, f, f, f, f]) true false) (by first | rfl | (simp [mask, hnx, bagStep]; done) | (simp [mask, hnx, bagStep] <;> simp_all <;> omega)) (by first | rfl | (simp [mask, hnx, bagStep]; done) | (simp [mask, hnx, bagStep] <;> simp_all <;> omega)) (by (repeat' (first | exact valsIn_nil _ | exact blksIn_nil _ | exact cellsIn_nil _ | refine And.intro ?_ ?_ | refine valsIn_cons ?_ ?_ | refine blksIn_cons ?_ ?_ | refine cellsIn_cons ?_ ?_ | exact True.intro | (show _ < _; omega) | exact cellsIn_map (fun _ => True.intro) | (intro c hc; cases hc; done) | (intro c hc; simp only [List.mem_cons, List.not_mem_nil, or_false] at hc; subst hc; exact True.intro)))), ?_, ?_⟩
          · refine ⟨hlt, fun j hj q hjq => ?_, hst⟩
            by_cases hji : j = i
            · subst hji; rw [e0] at hjq; cases hjq; exact hv
            · exact hval j (by omega) q hjq
          · omega
        · have e : makeE n l = (⟨0, []⟩, 2) := by
            unfold makeE
            rw [if_neg (by omega), if_neg (by omega), if_pos ⟨p, List.mem_of_getElem? e0, hv⟩]
          repeat' (first
            | (with_reducible refine AWp.seq_region (fun K hK => ?_))
            | (with_reducible refine AWp.last_region (fun K hK => ?_))
            | (with_reducible refine AWp.seq_draw (by with_unfolding_all kernel_rfl) (fun K hK => ?_))
            | (with_reducible refine AWp.last_draw (by with_unfolding_all kernel_rfl) (fun K hK => ?_))
            | ((with_reducible first | refine vcEnd ?_ | refine vcEndD ?_ | refine vcEndM ?_); refine hK _ _ ?_; clear hK; clear K)
            | ((with_reducible first | refine vcStepN (by rfl) (by with_unfolding_all rfl) ?_ | refine vcStepND (by rfl) (by with_unfolding_all rfl) ?_ | refine vcStepNM (by rfl) (by with_unfolding_all rfl) ?_); try simp only [aput, List.set_cons_succ, List.set_cons_zero, List.length_cons, List.length_nil, List.length_append, List.cons_append, List.nil_append, Nat.reduceAdd, List.append_nil])
            | ((with_reducible first | refine vcStep (by rfl) (fun K' hK' => ?_) | refine vcStepD (by rfl) (fun K' hK' => ?_) | refine vcStepM (by rfl) (fun K' hK' => ?_) | refine vcStepG (by rfl) (by with_unfolding_all rfl) (fun hguard K' hK' => ?_) (fun hguard => ?_) | refine vcStepGD (by rfl) (by with_unfolding_all rfl) (fun hguard K' hK' => ?_) (fun hguard => ?_) | refine vcStepGM (by rfl) (by with_unfolding_all rfl) (fun hguard K' hK' => ?_) (fun hguard => ?_)) <;> ((try (replace hguard := hguard; (try simp only [decide_eq_true_eq, decide_eq_false_iff_not, Bool.not_eq_true', Bool.not_eq_false', Bool.not_true, Bool.not_false, Int.not_lt, Int.not_le, reduceCtorEq, Bool.true_eq_false, Bool.false_eq_true] at hguard); (try (exfalso; (try clear hK'); (try clear hK); omega)))) <;> ((try (simp +contextual only [go_sem, e1, Int.toNat_natCast, Int.ofNat_lt, pRows_len])); (repeat' (first | ((with_reducible refine hK' _ _ ?_); clear hK'; clear K') | ((with_reducible first | refine ⟨_, _, ACall.h (vertex_ok _ _) (by with_unfolding_all rfl), ?_⟩ | refine ⟨_, ACall.h (vertex_ok _ _) (by with_unfolding_all rfl), ?_⟩ | refine ⟨_, _, ACall.hb (vertex_ok _ _) (by with_unfolding_all rfl) (by with_unfolding_all rfl), ?_⟩ | refine ⟨_, ACall.hb (vertex_ok _ _) (by with_unfolding_all rfl) (by with_unfolding_all rfl), ?_⟩); (try simp +contextual only [go_sem, e1, Int.toNat_natCast, Int.ofNat_lt, pRows_len])) | (with_reducible refine And.intro ?_ ?_) | ((with_reducible intro hpath); try first | (exfalso; (try clear hK'); (try clear hK); omega) | (exact absurd hpath (by assumption))) | ((with_reducible first | refine gi1 ?_ | refine gi2 ?_ | refine gn1 ?_ | refine gn2 ?_ | refine gi3 ?_ | refine gn3 ?_ | refine gnot ?_); omega) | (with_reducible exact True.intro) | ((refine hK' _ _ ?_); clear hK'; clear K'))); (try simp only [aput, List.set_cons_succ, List.set_cons_zero, List.length_cons, List.length_nil, List.length_append, List.cons_append, List.nil_append, Nat.reduceAdd, List.append_nil]))))
            | (with_reducible refine AWp.seq ?_)
            | (with_reducible refine AWp.block ?_)
            | (with_reducible refine AWp.skip ?_)
            | (with_reducible refine AWp.ret ?_)
            | (with_reducible refine AWp.exit ?_)
            | (refine AWp.cond _ rfl (fun hcond => ?_) (fun hcond => ?_) <;> first | (simp only [reduceCtorEq, Bool.true_eq_false, Bool.false_eq_true] at hcond; done) | (simp only [decide_eq_true_eq, decide_eq_false_iff_not, Bool.not_eq_true', Bool.not_eq_false', Int.not_lt, Int.not_le] at hcond; try (exfalso; omega)) | skip)
            | (with_reducible refine AThen.n ?_)
            | (with_reducible refine AThen.r ?_)
            | (with_reducible refine AThen.e ?_)
            | (with_reducible refine AInBlock.n ?_)
            | (with_reducible refine AInBlock.r ?_)
            | (with_reducible refine AInBlock.hit ?_)
            | (with_reducible refine AInBlock.miss (by with_unfolding_all decide) ?_))
          all_goals first
            | (exfalso; simp_all; omega)
            | (
              simp [Rets, aret, Blk.cells, ty, Try.results23, ares, toT1, toT, borrow, borrow0, capCell, toTree0, tint, tG, e, eRows]
              done)
      · have ei : i = l.length := by omega
        subst ei
        rw [List.take_length] at hbag ⊢
        have hall : ¬ ∃ p, p ∈ l ∧ ¬ ((0 ≤ p.1 ∧ p.1 < n) ∧ (0 ≤ p.2 ∧ p.2 < n)) := fun ⟨p, hp, hv⟩ => by
          obtain ⟨j, hj⟩ := List.mem_iff_getElem?.1 hp
          exact hv (hval j (List.getElem?_eq_some_iff.1 hj).1 p hj)
        have hes : ∀ es, es = bagL l → makeE n l = if ∃ e, e ∈ es ∧ 50 < e.m then (⟨0, []⟩, 5) else (⟨n, sortE es⟩, 0) := fun es he => by
          unfold makeE
          rw [if_neg (by omega), if_neg (by omega), if_neg hall, he]
        generalize bagL l = es at *
        have hmk := hes es rfl
        have hel := hbag.len
        repeat' (first
          | (with_reducible refine AWp.seq_region (fun K hK => ?_))
          | (with_reducible refine AWp.last_region (fun K hK => ?_))
          | (with_reducible refine AWp.seq_draw (by with_unfolding_all kernel_rfl) (fun K hK => ?_))
          | (with_reducible refine AWp.last_draw (by with_unfolding_all kernel_rfl) (fun K hK => ?_))
          | ((with_reducible first | refine vcEnd ?_ | refine vcEndD ?_ | refine vcEndM ?_); refine hK _ _ ?_; clear hK; clear K)
          | ((with_reducible first | refine vcStepN (by rfl) (by with_unfolding_all rfl) ?_ | refine vcStepND (by rfl) (by with_unfolding_all rfl) ?_ | refine vcStepNM (by rfl) (by with_unfolding_all rfl) ?_); try simp only [aput, List.set_cons_succ, List.set_cons_zero, List.length_cons, List.length_nil, List.length_append, List.cons_append, List.nil_append, Nat.reduceAdd, List.append_nil])
          | ((with_reducible first | refine vcStep (by rfl) (fun K' hK' => ?_) | refine vcStepD (by rfl) (fun K' hK' => ?_) | refine vcStepM (by rfl) (fun K' hK' => ?_) | refine vcStepG (by rfl) (by with_unfolding_all rfl) (fun hguard K' hK' => ?_) (fun hguard => ?_) | refine vcStepGD (by rfl) (by with_unfolding_all rfl) (fun hguard K' hK' => ?_) (fun hguard => ?_) | refine vcStepGM (by rfl) (by with_unfolding_all rfl) (fun hguard K' hK' => ?_) (fun hguard => ?_)) <;> ((try (replace hguard := hguard; (try simp only [decide_eq_true_eq, decide_eq_false_iff_not, Bool.not_eq_true', Bool.not_eq_false', Bool.not_true, Bool.not_false, Int.not_lt, Int.not_le, reduceCtorEq, Bool.true_eq_false, Bool.false_eq_true] at hguard); (try (exfalso; (try clear hK'); (try clear hK); omega)))) <;> ((try (simp +contextual only [go_sem, Int.ofNat_lt])); (repeat' (first | ((with_reducible refine hK' _ _ ?_); clear hK'; clear K') | (with_reducible refine And.intro ?_ ?_) | ((with_reducible intro hpath); try first | (exfalso; (try clear hK'); (try clear hK); omega) | (exact absurd hpath (by assumption))) | ((with_reducible first | refine gi1 ?_ | refine gi2 ?_ | refine gn1 ?_ | refine gn2 ?_ | refine gi3 ?_ | refine gn3 ?_ | refine gnot ?_); omega) | (with_reducible exact True.intro) | ((refine hK' _ _ ?_); clear hK'; clear K'))); (try simp only [aput, List.set_cons_succ, List.set_cons_zero, List.length_cons, List.length_nil, List.length_append, List.cons_append, List.nil_append, Nat.reduceAdd, List.append_nil]))))
          | (with_reducible refine AWp.seq ?_)
          | (with_reducible refine AWp.block ?_)
          | (with_reducible refine AWp.skip ?_)
          | (with_reducible refine AWp.ret ?_)
          | (with_reducible refine AWp.exit ?_)
          | (refine AWp.cond _ rfl (fun hcond => ?_) (fun hcond => ?_) <;> first | (simp only [reduceCtorEq, Bool.true_eq_false, Bool.false_eq_true] at hcond; done) | (simp only [decide_eq_true_eq, decide_eq_false_iff_not, Bool.not_eq_true', Bool.not_eq_false', Int.not_lt, Int.not_le] at hcond; try (exfalso; omega)) | skip)
          | (with_reducible refine AThen.n ?_)
          | (with_reducible refine AThen.r ?_)
          | (with_reducible refine AThen.e ?_)
          | (with_reducible refine AInBlock.n ?_)
          | (with_reducible refine AInBlock.r ?_)
          | (with_reducible refine AInBlock.hit ?_)
          | (with_reducible refine AInBlock.miss (by with_unfolding_all decide) ?_))
        refine AWp.loopx (α := List Nat) (fun seen => (⟨.c (.int .i64 n) :: .c .any :: .c .any :: .c .any :: .c (.ptr 0 0) :: .c .any :: .c (.map 1) :: .c .any :: .c .any :: .c .any :: .c .any :: .c .any :: .c .any :: .c .any :: .c .any :: .c .any :: .c .any :: .c .any :: .c .any :: .c .any :: .c .any :: .c .any :: .c .any :: .c .any :: .c .any :: .c .any :: .c .any :: .c .any :: .c .any :: .c .any :: .c .any :: .c .any :: .c .any :: .c .any :: .c .any :: .c .any :: .c .any :: .c .any :: .c .any :: .c .any :: .c .any :: .c .any :: .c .any :: .c .any :: .c .any :: .c .any :: .c .any :: .c .any :: .c .any :: .c .any :: .c .any :: .c .any :: .c .any :: .c .any :: .c (.iter 2) :: .c .any :: .c .any :: .c .any :: .c .any :: .c .any :: .c .any :: .c .any :: .c .any :: .c .any :: .c .any :: [], [.box [.int .i64 0, .nils], .map (mE es), .iter 1 (mE es).length seen]⟩ : St)) (fun seen => seen.Nodup ∧ (∀ j, j ∈ seen → j < es.length) ∧ ∀ j, j ∈ seen → ∀ e, es[j]? = some e → e.m ≤ 50) (fun seen => es.length - seen.length) ([]) (Weak.head2 (m := 3) (by omega) ((fun t f => [t, f, f, f, t, f, t, f, f, f, f, f, f, f, f, f, f, f, f, f, f, f, f, f, f, f, f, f, f, f, f, f, f, f, f, f, f, f, f, f, f, f, f, f, f, f, f, f, f, f, f, f, f, f, t, f, f, f, f, f, f, f, f, f, f]) true false) (by first | rfl | (simp [mask]; done) | (simp [mask] <;> omega)) (by first | rfl | (simp; done) | (simp <;> omega)) (by (repeat' (first | exact valsIn_nil _ | exact blksIn_nil _ | exact cellsIn_nil _ | refine And.intro ?_ ?_ | refine valsIn_cons ?_ ?_ | refine blksIn_cons ?_ ?_ | refine cellsIn_cons ?_ ?_ | exact True.intro | (show _ < _; omega) | exact cellsIn_map (fun _ => True.intro) | (intro c hc; cases hc; done) | (intro c hc; simp only [List.mem_cons, List.not_mem_nil, or_false] at hc; subst hc; exact True.intro))))) ?_ (fun seen hI => ?_)
        · exact ⟨List.nodup_nil, fun j hj => (by cases hj), fun j hj => (by cases hj)⟩
        · obtain ⟨hn, hlt2, hm50⟩ := hI
          have hsl := nodup_len hn hlt2
          refine AWp.seq_next rfl rfl rfl rfl rfl (fun hd K hK => ?_) (fun j e hj he K hK => ?_) <;> (try simp only [aput, List.set_cons_succ, List.set_cons_zero, List.length_cons, List.length_nil, List.length_append, List.cons_append, List.nil_append, Nat.reduceAdd, List.append_nil])
          · have e : makeE n l = (⟨n, sortE es⟩, 0) := by
              rw [hmk, if_neg]
              rintro ⟨e, he, h50⟩
              obtain ⟨j, hj⟩ := List.mem_iff_getElem?.1 he
              have := hm50 j (hd j (by rw [mE_len]; exact (List.getElem?_eq_some_iff.1 hj).1)) e hj
              omega
            repeat' (first
              | (with_reducible refine AWp.seq_region (fun K hK => ?_))
              | (with_reducible refine AWp.last_region (fun K hK => ?_))
              | (with_reducible refine AWp.seq_draw (by with_unfolding_all kernel_rfl) (fun K hK => ?_))
              | (with_reducible refine AWp.last_draw (by with_unfolding_all kernel_rfl) (fun K hK => ?_))
              | ((with_reducible first | refine vcEnd ?_ | refine vcEndD ?_ | refine vcEndM ?_); refine hK _ _ ?_; clear hK; clear K)
              | ((with_reducible first | refine vcStepN (by rfl) (by with_unfolding_all rfl) ?_ | refine vcStepND (by rfl) (by with_unfolding_all rfl) ?_ | refine vcStepNM (by rfl) (by with_unfolding_all rfl) ?_); try simp only [aput, List.set_cons_succ, List.set_cons_zero, List.length_cons, List.length_nil, List.length_append, List.cons_append, List.nil_append, Nat.reduceAdd, List.append_nil])
              | ((with_reducible first | refine vcStep (by rfl) (fun K' hK' => ?_) | refine vcStepD (by rfl) (fun K' hK' => ?_) | refine vcStepM (by rfl) (fun K' hK' => ?_) | refine vcStepG (by rfl) (by with_unfolding_all rfl) (fun hguard K' hK' => ?_) (fun hguard => ?_) | refine vcStepGD (by rfl) (by with_unfolding_all rfl) (fun hguard K' hK' => ?_) (fun hguard => ?_) | refine vcStepGM (by rfl) (by with_unfolding_all rfl) (fun hguard K' hK' => ?_) (fun hguard => ?_)) <;> ((try (replace hguard := hguard; (try simp only [decide_eq_true_eq, decide_eq_false_iff_not, Bool.not_eq_true', Bool.not_eq_false', Bool.not_true, Bool.not_false, Int.not_lt, Int.not_le, reduceCtorEq, Bool.true_eq_false, Bool.false_eq_true] at hguard); (try (exfalso; (try clear hK'); (try clear hK); omega)))) <;> ((try (simp +contextual only [go_sem])); (repeat' (first | ((with_reducible refine hK' _ _ ?_); clear hK'; clear K') | ((with_reducible first | refine ⟨_, _, ACallX.h1 (graph_ok n es hbag.d (by omega)) (by with_unfolding_all rfl) (by with_unfolding_all rfl), ?_⟩ | refine ⟨_, ACallX.h1 (graph_ok n es hbag.d (by omega)) (by with_unfolding_all rfl) (by with_unfolding_all rfl), ?_⟩); (try simp +contextual only [go_sem])) | (with_reducible refine And.intro ?_ ?_) | ((with_reducible intro hpath); try first | (exfalso; (try clear hK'); (try clear hK); omega) | (exact absurd hpath (by assumption))) | ((with_reducible first | refine gi1 ?_ | refine gi2 ?_ | refine gn1 ?_ | refine gn2 ?_ | refine gi3 ?_ | refine gn3 ?_ | refine gnot ?_); omega) | (with_reducible exact True.intro) | ((refine hK' _ _ ?_); clear hK'; clear K'))); (try simp only [aput, List.set_cons_succ, List.set_cons_zero, List.length_cons, List.length_nil, List.length_append, List.cons_append, List.nil_append, Nat.reduceAdd, List.append_nil]))))
              | (with_reducible refine AWp.seq ?_)
              | (with_reducible refine AWp.block ?_)
              | (with_reducible refine AWp.skip ?_)
              | (with_reducible refine AWp.ret ?_)
              | (with_reducible refine AWp.exit ?_)
              | (refine AWp.cond _ rfl (fun hcond => ?_) (fun hcond => ?_) <;> first | (simp only [reduceCtorEq, Bool.true_eq_false, Bool.false_eq_true] at hcond; done) | (simp only [decide_eq_true_eq, decide_eq_false_iff_not, Bool.not_eq_true', Bool.not_eq_false', Int.not_lt, Int.not_le] at hcond; try (exfalso; omega)) | skip)
              | (with_reducible refine AThen.n ?_)
              | (with_reducible refine AThen.r ?_)
              | (with_reducible refine AThen.e ?_)
              | (with_reducible refine AInBlock.n ?_)
              | (with_reducible refine AInBlock.r ?_)
              | (with_reducible refine AInBlock.hit ?_)
              | (with_reducible refine AInBlock.miss (by with_unfolding_all decide) ?_))
            simp [Rets, aret, Blk.cells, ty, Try.results23, ares, toT1, toT, borrow, borrow0, capCell, toTree0, tint, tG, e, eRows]
          · obtain ⟨x, hx, rfl⟩ := mE_get he
            have hje : j < es.length := (List.getElem?_eq_some_iff.1 hx).1
            have hnd : (seen ++ [j]).Nodup := List.nodup_append.2 ⟨hn, by simp, fun a ha b hb => by simp at hb; subst hb; rintro rfl; exact hj ha⟩
            have hlt3 : ∀ i, i ∈ seen ++ [j] → i < es.length := fun i hi => by
              rcases List.mem_append.1 hi with hi | hi
              · exact hlt2 i hi
              · simp at hi; subst hi; exact hje
            have hsl2 := nodup_len hnd hlt3
            simp only [kvE, keyVal, mvVal]
            repeat' (first
              | (with_reducible refine AWp.seq_region (fun K hK => ?_))
              | (with_reducible refine AWp.last_region (fun K hK => ?_))
              | (with_reducible refine AWp.seq_draw (by with_unfolding_all kernel_rfl) (fun K hK => ?_))
              | (with_reducible refine AWp.last_draw (by with_unfolding_all kernel_rfl) (fun K hK => ?_))
              | ((with_reducible first | refine vcEnd ?_ | refine vcEndD ?_ | refine vcEndM ?_); refine hK _ _ ?_; clear hK; clear K)
              | ((with_reducible first | refine vcStepN (by rfl) (by with_unfolding_all rfl) ?_ | refine vcStepND (by rfl) (by with_unfolding_all rfl) ?_ | refine vcStepNM (by rfl) (by with_unfolding_all rfl) ?_); try simp only [aput, List.set_cons_succ, List.set_cons_zero, List.length_cons, List.length_nil, List.length_append, List.cons_append, List.nil_append, Nat.reduceAdd, List.append_nil])
              | ((with_reducible first | refine vcStep (by rfl) (fun K' hK' => ?_) | refine vcStepD (by rfl) (fun K' hK' => ?_) | refine vcStepM (by rfl) (fun K' hK' => ?_) | refine vcStepG (by rfl) (by with_unfolding_all rfl) (fun hguard K' hK' => ?_) (fun hguard => ?_) | refine vcStepGD (by rfl) (by with_unfolding_all rfl) (fun hguard K' hK' => ?_) (fun hguard => ?_) | refine vcStepGM (by rfl) (by with_unfolding_all rfl) (fun hguard K' hK' => ?_) (fun hguard => ?_)) <;> ((try (replace hguard := hguard; (try simp only [decide_eq_true_eq, decide_eq_false_iff_not, Bool.not_eq_true', Bool.not_eq_false', Bool.not_true, Bool.not_false, Int.not_lt, Int.not_le, reduceCtorEq, Bool.true_eq_false, Bool.false_eq_true] at hguard); (try (exfalso; (try clear hK'); (try clear hK); omega)))) <;> ((try (simp +contextual only [go_sem, mE_at hx, kvE, mE_len])); (repeat' (first | ((with_reducible refine hK' _ _ ?_); clear hK'; clear K') | (with_reducible refine And.intro ?_ ?_) | ((with_reducible intro hpath); try first | (exfalso; (try clear hK'); (try clear hK); omega) | (exact absurd hpath (by assumption))) | ((with_reducible first | refine gi1 ?_ | refine gi2 ?_ | refine gn1 ?_ | refine gn2 ?_ | refine gi3 ?_ | refine gn3 ?_ | refine gnot ?_); omega) | (with_reducible exact True.intro) | ((refine hK' _ _ ?_); clear hK'; clear K'))); (try simp only [aput, List.set_cons_succ, List.set_cons_zero, List.length_cons, List.length_nil, List.length_append, List.cons_append, List.nil_append, Nat.reduceAdd, List.append_nil]))))
              | (with_reducible refine AWp.seq ?_)
              | (with_reducible refine AWp.block ?_)
              | (with_reducible refine AWp.skip ?_)
              | (with_reducible refine AWp.ret ?_)
              | (with_reducible refine AWp.exit ?_)
              | (refine AWp.cond _ rfl (fun hcond => ?_) (fun hcond => ?_) <;> first | (simp only [reduceCtorEq, Bool.true_eq_false, Bool.false_eq_true] at hcond; done) | (simp only [decide_eq_true_eq, decide_eq_false_iff_not, Bool.not_eq_true', Bool.not_eq_false', Int.not_lt, Int.not_le] at hcond; try (exfalso; omega)) | skip)
              | (with_reducible refine AThen.n ?_)
              | (with_reducible refine AThen.r ?_)
              | (with_reducible refine AThen.e ?_)
              | (with_reducible refine AInBlock.n ?_)
              | (with_reducible refine AInBlock.r ?_)
              | (with_reducible refine AInBlock.hit ?_)
              | (with_reducible refine AInBlock.miss (by with_unfolding_all decide) ?_))
            · have e : makeE n l = (⟨0, []⟩, 5) := by
                rw [hmk, if_pos ⟨x, List.mem_of_getElem? hx, by omega⟩]
              simp [Rets, aret, Blk.cells, ty, Try.results23, ares, toT1, toT, borrow, borrow0, capCell, toTree0, tint, tG, e, eRows]
            · refine ⟨seen ++ [j], Weak.head2 (m := 3) (by omega) ((fun t f => [t, f, f, f, t, f, t, f, f, f, f, f, f, f, f, f, f, f, f, f, f, f, f, f, f, f, f, f, f, f, f, f, f, f, f, f, f, f, f, f, f, f, f, f, f, f, f, f, f, f, f, f, f, f, t, f, f, f, f, f, f, f, f, f, f]) true false) (by first | rfl | (simp [mask, mE_len]; done) | (simp [mask, mE_len] <;> simp_all <;> omega)) (by first | rfl | (simp [mask, mE_len]; done) | (simp [mask, mE_len] <;> simp_all <;> omega)) (by (repeat' (first | exact valsIn_nil _ | exact blksIn_nil _ | exact cellsIn_nil _ | refine And.intro ?_ ?_ | refine valsIn_cons ?_ ?_ | refine blksIn_cons ?_ ?_ | refine cellsIn_cons ?_ ?_ | exact True.intro | (show _ < _; omega) | exact cellsIn_map (fun _ => True.intro) | (intro c hc; cases hc; done) | (intro c hc; simp only [List.mem_cons, List.not_mem_nil, or_false] at hc; subst hc; exact True.intro)))), ?_, ?_⟩
              · refine ⟨hnd, hlt3, fun i hi e hie => ?_⟩
                rcases List.mem_append.1 hi with hi | hi
                · exact hm50 i hi e hie
                · simp at hi; subst hi; rw [hx] at hie; cases hie; omega
              · simp at hsl2 ⊢; omega
  · have e : makeE n l = (⟨0, []⟩, 2) := by unfold makeE; rw [if_pos (by omega)]
    simp [Rets, aret, Blk.cells, ty, Try.results23, ares, toT1, toT, borrow, borrow0, capCell, toTree0, tint, tG, e, eRows]
end Go.Proofs.Ytbdpkgckdkpepaa
