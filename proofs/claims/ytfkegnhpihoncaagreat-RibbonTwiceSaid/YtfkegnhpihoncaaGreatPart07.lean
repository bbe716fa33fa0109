/- A part of the proof: contracts of functions of the program, and plain lemmas. -/
import Derived.Test.YtfkegnhpihoncaaGreatPart06
import Derived.Test.YtfkegnhpihoncaaGreatLayerB
import Derived.Test.YtfkegnhpihoncaaGreatLayerC
import Derived.Test.YtfkegnhpihoncaaGreatPart05
set_option linter.all false
namespace Go.Proofs.YtfkegnhpihoncaaGreat
open Go.Sp
set_option linter.unusedSimpArgs false
set_option linter.unusedVariables false
set_option maxHeartbeats 4000000
set_option maxRecDepth 100000
theorem mapBag : tMap Tryz.prog 118 = some (121, 3) := by simp only [ty]
theorem zero3 : tZero Tryz.prog 3 = some (.int .i64 0) := by simp only [ty]
def cntL : List E → Int → Int → Int
  | [], _, _ => 0
  | x :: xs, a, b => if x.a = a ∧ x.b = b then x.m else cntL xs a b
def bagPut : List E → Int → Int → Int → List E
  | [], a, b, m => [⟨a, b, m⟩]
  | x :: xs, a, b, m => if x.a = a ∧ x.b = b then ⟨a, b, m⟩ :: xs else x :: bagPut xs a b m
theorem key_eq (x : E) (a b : Int) : ((kvE x).1 == MKey.ints [a, b]) = decide (x.a = a ∧ x.b = b) := by
  rw [Bool.eq_iff_iff]; simp [kvE]
theorem mIdx_cons (x : E) (xs : List E) (a b : Int) : mIdx (mE (x :: xs)) (.ints [a, b]) = if x.a = a ∧ x.b = b then some 0 else (mIdx (mE xs) (.ints [a, b])).map (· + 1) := by
  simp only [mIdx, mE, List.map_cons, List.findIdx?_cons, key_eq]
  by_cases h : x.a = a ∧ x.b = b <;> simp [h]
theorem mVal_mE (es : List E) (a b : Int) : mVal (mE es) (.ints [a, b]) (.c (.int .i64 0)) = .c (.int .i64 (cntL es a b)) := by
  induction es with
  | nil => simp [mVal, mIdx, mE, cntL]
  | cons x xs ih =>
    unfold mVal at ih ⊢
    rw [mIdx_cons]
    by_cases h : x.a = a ∧ x.b = b
    · simp [h, cntL, mE, kvE]
    · rw [if_neg h]
      simp only [cntL, if_neg h, ← ih]
      cases hx : mIdx (mE xs) (.ints [a, b]) with
      | none => rfl
      | some j => simp [mE]
theorem mPut_mE (es : List E) (a b m : Int) : mPut (mE es) (.ints [a, b]) (.c (.int .i64 m)) = mE (bagPut es a b m) := by
  induction es with
  | nil => simp [mPut, mIdx, mE, bagPut, kvE]
  | cons x xs ih =>
    unfold mPut at ih ⊢
    rw [mIdx_cons]
    by_cases h : x.a = a ∧ x.b = b
    · simp [h, bagPut, mE, kvE]
    · rw [if_neg h]
      simp only [bagPut, if_neg h]
      have e : mE (x :: bagPut xs a b m) = kvE x :: mE (bagPut xs a b m) := rfl
      rw [e, ← ih]
      cases hx : mIdx (mE xs) (.ints [a, b]) with
      | none => simp [mE]
      | some j => simp [mE]
def bagStep (es : List E) (p : Int × Int) : List E := bagPut es (min p.1 p.2) (max p.1 p.2) (cntL es (min p.1 p.2) (max p.1 p.2) + 1)
def bagL (l : List (Int × Int)) : List E := l.foldl bagStep []
theorem mStamp_lt (es : List (MKey × MV)) (k : MKey) (z : MV) : mStamp es k < (mAdd es k z).length := by
  unfold mStamp mAdd mHas
  cases h : mIdx es k with
  | none => simp
  | some i =>
    obtain ⟨v, hv⟩ := mIdx_some h
    have := (List.getElem?_eq_some_iff.1 hv).1
    simpa using this
theorem bagL_snoc (l : List (Int × Int)) (p : Int × Int) : bagL (l ++ [p]) = bagStep (bagL l) p := by simp [bagL]
theorem bagPut_mem {es : List E} {a b m : Int} {e : E} (h : e ∈ bagPut es a b m) : e ∈ es ∨ e = ⟨a, b, m⟩ := by
  induction es with
  | nil => simp [bagPut] at h; exact .inr h
  | cons x xs ih =>
    simp only [bagPut] at h
    split at h
    · rcases List.mem_cons.1 h with h | h
      · exact .inr h
      · exact .inl (by simp [h])
    · rcases List.mem_cons.1 h with h | h
      · exact .inl (by simp [h])
      · rcases ih h with h | h
        · exact .inl (by simp [h])
        · exact .inr h
theorem bagPut_distinct {es : List E} {a b m : Int} (h : distinctE es) : distinctE (bagPut es a b m) := by
  induction es with
  | nil => simp [bagPut, distinctE]
  | cons x xs ih =>
    unfold distinctE at *
    rw [List.pairwise_cons] at h
    simp only [bagPut]
    split
    · rename_i hx
      refine List.pairwise_cons.2 ⟨fun y hy => ?_, h.2⟩
      have := h.1 y hy
      unfold neE at *; simp only; omega
    · rename_i hx
      refine List.pairwise_cons.2 ⟨fun y hy => ?_, ih h.2⟩
      rcases bagPut_mem hy with hy | hy
      · exact h.1 y hy
      · subst hy; unfold neE; simp only; omega
theorem bagPut_len (es : List E) (a b m : Int) : (bagPut es a b m).length ≤ es.length + 1 := by
  induction es with
  | nil => simp [bagPut]
  | cons x xs ih => simp only [bagPut]; split <;> simp <;> omega
theorem cntL_le {es : List E} {a b k : Int} (h : ∀ e, e ∈ es → e.m ≤ k) (hk : 0 ≤ k) : cntL es a b ≤ k := by
  induction es with
  | nil => simpa [cntL] using hk
  | cons x xs ih => simp only [cntL]; split; exact h x (by simp); exact ih fun e he => h e (by simp [he])
theorem cntL_ge {es : List E} {a b : Int} (h : ∀ e, e ∈ es → 1 ≤ e.m) : 0 ≤ cntL es a b := by
  induction es with
  | nil => simp [cntL]
  | cons x xs ih => simp only [cntL]; split; have := h x (by simp); omega; exact ih fun e he => h e (by simp [he])
structure BagOk (n : Int) (k : Nat) (es : List E) : Prop where
  d : distinctE es
  len : es.length ≤ k
  m : ∀ e, e ∈ es → 1 ≤ e.m ∧ e.m ≤ k
  r : ∀ e, e ∈ es → 0 ≤ e.a ∧ e.a ≤ e.b ∧ e.b < n
theorem bag_step {n : Int} {k : Nat} {es : List E} (h : BagOk n k es) {p : Int × Int} (h1 : 0 ≤ p.1 ∧ p.1 < n) (h2 : 0 ≤ p.2 ∧ p.2 < n) : BagOk n (k + 1) (bagStep es p) := by
  have c1 := cntL_le (a := min p.1 p.2) (b := max p.1 p.2) (k := k) (fun e he => (h.m e he).2) (by omega)
  have c2 := cntL_ge (a := min p.1 p.2) (b := max p.1 p.2) (fun e he => (h.m e he).1)
  refine ⟨bagPut_distinct h.d, Nat.le_trans (bagPut_len ..) (by have := h.len; omega), fun e he => ?_, fun e he => ?_⟩
  · rcases bagPut_mem he with he | rfl
    · have := h.m e he; omega
    · simp only; omega
  · rcases bagPut_mem he with he | rfl
    · exact h.r e he
    · simp only; omega
theorem bag_keys {n : Int} {k : Nat} {es : List E} (hn : n ≤ 12) (h : BagOk n k es) : ∀ e, e ∈ mE es → (KShape.ints 2).ok e.1 = true := by
  intro e he
  obtain ⟨x, hx, rfl⟩ := List.mem_map.1 he
  have := h.r x hx
  simp only [KShape.ok, kvE, List.length_cons, List.length_nil, Bool.and_eq_true, beq_iff_eq, List.all_eq_true, List.mem_cons, List.not_mem_nil, or_false, decide_eq_true_eq]
  exact ⟨trivial, fun y hy => by rcases hy with rfl | rfl <;> omega⟩
theorem key_ok {a b : Int} (h1 : 0 ≤ a ∧ a < 12) (h2 : 0 ≤ b ∧ b < 12) : (KShape.ints 2).ok (.ints [a, b]) = true := by
  simp only [KShape.ok, List.length_cons, List.length_nil, Bool.and_eq_true, beq_iff_eq, List.all_eq_true, List.mem_cons, List.not_mem_nil, or_false, decide_eq_true_eq]
  exact ⟨trivial, fun y hy => by rcases hy with rfl | rfl <;> omega⟩
open Classical in
noncomputable def makeE (n : Int) (l : List (Int × Int)) : G × Int :=
  if n < 1 ∨ 12 < n then (⟨0, []⟩, 2) else if 4096 < l.length then (⟨0, []⟩, 5)
  else if ∃ p, p ∈ l ∧ ¬ ((0 ≤ p.1 ∧ p.1 < n) ∧ (0 ≤ p.2 ∧ p.2 < n)) then (⟨0, []⟩, 2)
  else if ∃ e, e ∈ bagL l ∧ 50 < e.m then (⟨0, []⟩, 5) else (⟨n, sortE (bagL l)⟩, 0)
theorem Make_ok (n : Int) (l : List (Int × Int)) (hl : l.length < 2 ^ 40) : ACall Tryz.prog 57 [tint n, tpairs l] (.tup [tG (makeE n l).1, tint (makeE n l).2]) := by
  refine ACall.of_body Tryz.func57 rfl (by kernel_rfl) ?_
  simp only [entry, Tryz.ntmps57, tint, tpairs]
  refine zU ?_
  repeat' (first|((first|(refine zT ?_;intro K' hK')|(refine zG ?_ ?_<;>(try refine zH ?_)<;>intro hguard<;>(try exact zX)<;>try intro K' hK'))<;>((try simp +contextual only [go_sem, pRows_len, Int.ofNat_lt]);(repeat' first|(with_reducible refine hK' _ _ ?_;clear hK' K')|exact zY|with_reducible refine And.intro ?_ ?_|(with_reducible intro hpath;try exact zP)|(refine hK' _ _ ?_;clear hK' K')|fail);try refine zS ?_))|(refine zE ?_;refine hK _ _ ?_;clear hK K)|(refine zN ?_;try refine zS ?_)|refine zA ?_|(refine zB ?_;intro K hK)|(refine zC ?_ ?_<;>(try refine zH ?_)<;>intro hcond<;>try exact zX)|fail)
  · have e : makeE n l = (⟨0, []⟩, 2) := by unfold makeE; rw [if_pos (by omega)]
    simp [Rets, aret, Blk.cells, ty, Tryz.results57, ares, toT1, toT, borrow, borrow0, capCell, toTree0, tint, tG, e, eRows]
  · have e : makeE n l = (⟨0, []⟩, 5) := by unfold makeE; rw [if_neg (by omega), if_pos (by omega)]
    simp [Rets, aret, Blk.cells, ty, Tryz.results57, ares, toT1, toT, borrow, borrow0, capCell, toTree0, tint, tG, e, eRows]
  · have hl2 : l.length ≤ 4096 := by omega
    refine AWp.loopS (α:=Nat) 65 (fun i=>[(0,.c (.int .i64 n)),(4,.c (.ptr 0 0)),(6,.c (.map 1)),(23,.c (.slice (pRows l) .none)),(24,.c (.int .i64 (l.length : Int))),(25,.c (.int .i64 (i : Int)))]) (fun i=>[.box [.int .i64 0, .nils], .map (mE (bagL (l.take i)))]) (fun i=>i ≤ l.length ∧ (∀ j, j < i → ∀ p, l[j]? = some p → (0 ≤ p.1 ∧ p.1 < n) ∧ (0 ≤ p.2 ∧ p.2 < n)) ∧ BagOk n i (bagL (l.take i))) (fun i=>l.length - i) (0) (hk:=Weak.headL 2 65 [0, 4, 6, 23, 24, 25] zW) (h0:=?_) (round:=fun i hI=>?_)
    · refine ⟨Nat.zero_le _, fun j hj => by omega, ?_⟩
      simp only [List.take_zero, bagL, List.foldl_nil]
      exact ⟨List.Pairwise.nil, by simp, by simp, by simp⟩
    · obtain ⟨hi, hval, hbag⟩ := hI
      by_cases hlt : i < l.length
      · have e0 := List.getElem?_eq_getElem hlt
        have e1 := pRows_get e0
        have hsn : l.take (i + 1) = l.take i ++ [l[i]] := List.take_succ_eq_append_getElem hlt
        generalize l[i] = p at *
        by_cases hv : (0 ≤ p.1 ∧ p.1 < n) ∧ (0 ≤ p.2 ∧ p.2 < n)
        · have hk := key_ok (a := min p.1 p.2) (b := max p.1 p.2) (by omega) (by omega)
          have hks := bag_keys (by omega) hbag
          have hc1 := cntL_le (a := min p.1 p.2) (b := max p.1 p.2) (k := i) (fun e he => (hbag.m e he).2) (by omega)
          have hc2 := cntL_ge (a := min p.1 p.2) (b := max p.1 p.2) (fun e he => (hbag.m e he).1)
          have hst := bag_step hbag hv.1 hv.2
          rw [← bagL_snoc, ← hsn] at hst
          have hnx : bagL (l.take (i + 1)) = bagStep (bagL (l.take i)) p := by rw [hsn, bagL_snoc]
          generalize bagL (l.take i) = es at *
          repeat' (first|(with_reducible refine AWp.seq_drawM mapBag klPair zero3 (by with_unfolding_all rfl) (by with_unfolding_all kernel_rfl) (fun K hK=>?_))|(with_reducible refine AWp.last_drawM mapBag klPair zero3 (by with_unfolding_all rfl) (by with_unfolding_all kernel_rfl) (fun K hK=>?_))|((first|(refine zT ?_;intro K' hK')|(refine zG ?_ ?_<;>(try refine zH ?_)<;>intro hguard<;>(try exact zX)<;>try intro K' hK'))<;>((try simp +contextual only [go_sem, e1, Int.toNat_natCast, Int.ofNat_lt, pRows_len, toKey, mVal_mE, hv.1, hv.2, mSet_mAdd, mPut_mE]);(repeat' first|(with_reducible refine hK' _ _ ?_;clear hK' K')|((with_reducible first|refine zK (vertex_ok _ _) ?_|refine zK (joined_ok _ _) ?_);try simp +contextual only [go_sem, e1, Int.toNat_natCast, Int.ofNat_lt, pRows_len, toKey, mVal_mE, hv.1, hv.2, mSet_mAdd, mPut_mE])|(exact hk)|(exact hks)|(with_reducible refine ⟨_,rfl,?_⟩;try simp +contextual only [go_sem, e1, Int.toNat_natCast, Int.ofNat_lt, pRows_len, toKey, mVal_mE, hv.1, hv.2, mSet_mAdd, mPut_mE])|(exact mStamp_lt _ _ _)|exact zY|with_reducible refine And.intro ?_ ?_|(with_reducible intro hpath;try exact zP)|(refine hK' _ _ ?_;clear hK' K')|fail);try refine zS ?_))|(refine zE ?_;refine hK _ _ ?_;clear hK K)|(refine zN ?_;try refine zS ?_)|refine zA ?_|(refine zB ?_;intro K hK)|(refine zC ?_ ?_<;>(try refine zH ?_)<;>intro hcond<;>try exact zX)|fail)
          refine ⟨i + 1,Weak.headN 2 65 [0, 4, 6, 23, 24, 25] zW (e1:=by first|rfl|(simp [mask,keepL, hnx, bagStep];done)|(simp [mask,keepL, hnx, bagStep]<;>simp_all<;>omega)) (e2:=by first|rfl|(simp [mask,keepL, hnx, bagStep];done)|(simp [mask,keepL, hnx, bagStep]<;>simp_all<;>omega)),?_,?_⟩
          · refine ⟨hlt, fun j hj q hjq => ?_, hst⟩
            by_cases hji : j = i
            · subst hji; rw [e0] at hjq; cases hjq; exact hv
            · exact hval j (by omega) q hjq
          · omega
        · have e : makeE n l = (⟨0, []⟩, 2) := by
            unfold makeE
            rw [if_neg (by omega), if_neg (by omega), if_pos ⟨p, List.mem_of_getElem? e0, hv⟩]
          repeat' (first|((first|(refine zT ?_;intro K' hK')|(refine zG ?_ ?_<;>(try refine zH ?_)<;>intro hguard<;>(try exact zX)<;>try intro K' hK'))<;>((try simp +contextual only [go_sem, e1, Int.toNat_natCast, Int.ofNat_lt, pRows_len]);(repeat' first|(with_reducible refine hK' _ _ ?_;clear hK' K')|(with_reducible refine zK (vertex_ok _ _) ?_;try simp +contextual only [go_sem, e1, Int.toNat_natCast, Int.ofNat_lt, pRows_len])|exact zY|with_reducible refine And.intro ?_ ?_|(with_reducible intro hpath;try exact zP)|(refine hK' _ _ ?_;clear hK' K')|fail);try refine zS ?_))|(refine zE ?_;refine hK _ _ ?_;clear hK K)|(refine zN ?_;try refine zS ?_)|refine zA ?_|(refine zB ?_;intro K hK)|(refine zC ?_ ?_<;>(try refine zH ?_)<;>intro hcond<;>try exact zX)|fail)
          all_goals first
            | (exfalso; simp_all; omega)
            | (
              simp [Rets, aret, Blk.cells, ty, Tryz.results57, ares, toT1, toT, borrow, borrow0, capCell, toTree0, tint, tG, e, eRows]
              done)
      · have ei : i = l.length := by omega
        subst ei
        rw [List.take_length] at hbag ⊢
        have hall : ¬ ∃ p, p ∈ l ∧ ¬ ((0 ≤ p.1 ∧ p.1 < n) ∧ (0 ≤ p.2 ∧ p.2 < n)) := fun ⟨p, hp, hv⟩ => by
          obtain ⟨j, hj⟩ := List.mem_iff_getElem?.1 hp
          exact hv (hval j (List.getElem?_eq_some_iff.1 hj).1 p hj)
        have hes : ∀ es, es = bagL l → makeE n l = if ∃ e, e ∈ es ∧ 50 < e.m then (⟨0, []⟩, 5) else (⟨n, sortE es⟩, 0) := fun es he => by
          unfold makeE
          rw [if_neg (by omega), if_neg (by omega), if_neg hall, he]
        generalize bagL l = es at *
        have hmk := hes es rfl
        have hel := hbag.len
        refine zR (zc @Int.ofNat_lt trivial) trivial trivial ?_
        refine AWp.loopS (α:=List Nat) 65 (fun seen=>[(0,.c (.int .i64 n)),(4,.c (.ptr 0 0)),(6,.c (.map 1)),(54,.c (.iter 2))]) (fun seen=>[.box [.int .i64 0, .nils], .map (mE es), .iter 1 (mE es).length seen]) (fun seen=>seen.Nodup ∧ (∀ j, j ∈ seen → j < es.length) ∧ ∀ j, j ∈ seen → ∀ e, es[j]? = some e → e.m ≤ 50) (fun seen=>es.length - seen.length) ([]) (hk:=Weak.headL 3 65 [0, 4, 6, 54] zW) (h0:=?_) (round:=fun seen hI=>?_)
        · exact ⟨List.nodup_nil, fun j hj => (by cases hj), fun j hj => (by cases hj)⟩
        · obtain ⟨hn, hlt2, hm50⟩ := hI
          have hsl := nodup_len hn hlt2
          refine AWp.seq_next rfl rfl rfl rfl rfl (fun hd K hK => ?_) (fun j e hj he K hK => ?_) <;> (try refine zS ?_)
          · have e : makeE n l = (⟨n, sortE es⟩, 0) := by
              rw [hmk, if_neg]
              rintro ⟨e, he, h50⟩
              obtain ⟨j, hj⟩ := List.mem_iff_getElem?.1 he
              have := hm50 j (hd j (by rw [mE_len]; exact (List.getElem?_eq_some_iff.1 hj).1)) e hj
              omega
            repeat' (first|((first|(refine zT ?_;intro K' hK')|(refine zG ?_ ?_<;>(try refine zH ?_)<;>intro hguard<;>(try exact zX)<;>try intro K' hK'))<;>((try simp +contextual only [go_sem]);(repeat' first|(with_reducible refine hK' _ _ ?_;clear hK' K')|((with_reducible first|refine ⟨_,_,ACallX.h1 (graph_ok n es hbag.d (by omega)) (by with_unfolding_all rfl) (by with_unfolding_all rfl),?_⟩|refine ⟨_,ACallX.h1 (graph_ok n es hbag.d (by omega)) (by with_unfolding_all rfl) (by with_unfolding_all rfl),?_⟩);try simp +contextual only [go_sem])|exact zY|with_reducible refine And.intro ?_ ?_|(with_reducible intro hpath;try exact zP)|(refine hK' _ _ ?_;clear hK' K')|fail);try refine zS ?_))|(refine zE ?_;refine hK _ _ ?_;clear hK K)|(refine zN ?_;try refine zS ?_)|refine zA ?_|(refine zB ?_;intro K hK)|(refine zC ?_ ?_<;>(try refine zH ?_)<;>intro hcond<;>try exact zX)|fail)
            simp [Rets, aret, Blk.cells, ty, Tryz.results57, ares, toT1, toT, borrow, borrow0, capCell, toTree0, tint, tG, e, eRows]
          · obtain ⟨x, hx, rfl⟩ := mE_get he
            have hje : j < es.length := (List.getElem?_eq_some_iff.1 hx).1
            have hnd : (seen ++ [j]).Nodup := List.nodup_append.2 ⟨hn, by simp, fun a ha b hb => by simp at hb; subst hb; rintro rfl; exact hj ha⟩
            have hlt3 : ∀ i, i ∈ seen ++ [j] → i < es.length := fun i hi => by
              rcases List.mem_append.1 hi with hi | hi
              · exact hlt2 i hi
              · simp at hi; subst hi; exact hje
            have hsl2 := nodup_len hnd hlt3
            simp only [kvE, keyVal, mvVal]
            repeat' (first|((first|(refine zT ?_;intro K' hK')|(refine zG ?_ ?_<;>(try refine zH ?_)<;>intro hguard<;>(try exact zX)<;>try intro K' hK'))<;>((try simp +contextual only [go_sem, mE_at hx, kvE, mE_len]);(repeat' first|(with_reducible refine hK' _ _ ?_;clear hK' K')|exact zY|with_reducible refine And.intro ?_ ?_|(with_reducible intro hpath;try exact zP)|(refine hK' _ _ ?_;clear hK' K')|fail);try refine zS ?_))|(refine zE ?_;refine hK _ _ ?_;clear hK K)|(refine zN ?_;try refine zS ?_)|refine zA ?_|(refine zB ?_;intro K hK)|(refine zC ?_ ?_<;>(try refine zH ?_)<;>intro hcond<;>try exact zX)|fail)
            · have e : makeE n l = (⟨0, []⟩, 5) := by
                rw [hmk, if_pos ⟨x, List.mem_of_getElem? hx, by omega⟩]
              simp [Rets, aret, Blk.cells, ty, Tryz.results57, ares, toT1, toT, borrow, borrow0, capCell, toTree0, tint, tG, e, eRows]
            · refine ⟨seen ++ [j],Weak.headF 3 65 [0, 4, 6, 54] (zc @mE_len trivial) zW,?_,?_⟩
              · refine ⟨hnd, hlt3, fun i hi e hie => ?_⟩
                rcases List.mem_append.1 hi with hi | hi
                · exact hm50 i hi e hie
                · simp at hi; subst hi; rw [hx] at hie; cases hie; omega
              · simp at hsl2 ⊢; omega
  · have e : makeE n l = (⟨0, []⟩, 2) := by unfold makeE; rw [if_pos (by omega)]
    simp [Rets, aret, Blk.cells, ty, Tryz.results57, ares, toT1, toT, borrow, borrow0, capCell, toTree0, tint, tG, e, eRows]
end Go.Proofs.YtfkegnhpihoncaaGreat
set_option linter.all false
namespace Go.Proofs.YtfkegnhpihoncaaGreat
open Go.Sp
set_option linter.unusedSimpArgs false
set_option linter.unusedVariables false
set_option maxHeartbeats 4000000
set_option maxRecDepth 100000
instance : DecidableEq E := fun x y => decidable_of_iff (x.a = y.a ∧ x.b = y.b ∧ x.m = y.m) (by cases x; cases y; simp)
theorem Same_ok (g h : G) (hl : g.es.length < 2 ^ 40) (hm : h.es.length < 2 ^ 40) : ACall Tryz.prog 69 [tG g, tG h] (tbool (decide (g.n = h.n ∧ g.es = h.es))) := by
  refine ACall.of_body Tryz.func69 rfl (by kernel_rfl) ?_
  simp only [entry, Tryz.ntmps69, tG]
  refine zU ?_
  repeat' (first|((first|(refine zT ?_;intro K' hK')|(refine zG ?_ ?_<;>(try refine zH ?_)<;>intro hguard<;>(try exact zX)<;>try intro K' hK'))<;>((try simp +contextual only [go_sem, eRows_len]);(repeat' first|(with_reducible refine hK' _ _ ?_;clear hK' K')|exact zY|with_reducible refine And.intro ?_ ?_|(with_reducible intro hpath;try exact zP)|(refine hK' _ _ ?_;clear hK' K')|fail);try refine zS ?_))|(refine zE ?_;refine hK _ _ ?_;clear hK K)|(refine zN ?_;try refine zS ?_)|refine zA ?_|(refine zB ?_;intro K hK)|(refine zC ?_ ?_<;>(try refine zH ?_)<;>intro hcond<;>try exact zX)|fail)
  · have e : ¬ (g.n = h.n ∧ g.es = h.es) := fun e => by
      have := congrArg List.length e.2; omega
    simp [Rets, aret, Blk.cells, ty, Tryz.results69, ares, toT1, toT, borrow, borrow0, capCell, toTree0, tbool, e]
  · have hlm : g.es.length = h.es.length := by omega
    have hn : g.n = h.n := by omega
    refine AWp.loopS (α:=Nat) 38 (fun k=>[(2,.c (.ptr 0 0)),(3,.c (.ptr 1 0)),(5,.c (.int .i64 (k : Int)))]) (fun k=>[.box [.int .i64 g.n, .slice (eRows g.es) .none], .box [.int .i64 h.n, .slice (eRows h.es) .none]]) (fun k=>k ≤ g.es.length ∧ ∀ j, j < k → g.es[j]? = h.es[j]?) (fun k=>g.es.length - k) (0) (hk:=Weak.headL 2 38 [2, 3, 5] zW) (h0:=?_) (round:=fun k hI=>?_)
    · exact ⟨Nat.zero_le _, fun j hj => by omega⟩
    · obtain ⟨hk, hx⟩ := hI
      by_cases hlt : k < g.es.length
      · have hlt2 : k < h.es.length := by omega
        have e0 := List.getElem?_eq_getElem hlt
        have e0' := List.getElem?_eq_getElem hlt2
        have e1 := eRows_get e0
        have e2 := eRows_get e0'
        repeat' (first|((first|(refine zT ?_;intro K' hK')|(refine zG ?_ ?_<;>(try refine zH ?_)<;>intro hguard<;>(try exact zX)<;>try intro K' hK'))<;>((try simp +contextual only [go_sem, e1, e2, Int.toNat_natCast, Int.ofNat_lt, eRows_len, cellInt]);(repeat' first|(with_reducible refine hK' _ _ ?_;clear hK' K')|(refine ⟨_, _, rfl, rfl, eqEdge, rfl, ?_⟩)|exact zY|with_reducible refine And.intro ?_ ?_|(with_reducible intro hpath;try exact zP)|(refine hK' _ _ ?_;clear hK' K')|fail);try refine zS ?_))|(refine zE ?_;refine hK _ _ ?_;clear hK K)|(refine zN ?_;try refine zS ?_)|refine zA ?_|(refine zB ?_;intro K hK)|(refine zC ?_ ?_<;>(try refine zH ?_)<;>intro hcond<;>try exact zX)|fail)
        · have e : ¬ (g.n = h.n ∧ g.es = h.es) := fun e => by
            have := e.2; simp_all
          simp [Rets, aret, Blk.cells, ty, Tryz.results69, ares, toT1, toT, borrow, borrow0, capCell, toTree0, tbool, e]
        · refine ⟨k + 1,Weak.headN 2 38 [2, 3, 5] zW,?_,?_⟩
          · refine ⟨hlt, fun j hj => ?_⟩
            by_cases hjk : j = k
            · subst hjk
              rw [e0, e0']
              cases hg : g.es[j]; cases hh : h.es[j]
              simp_all
            · exact hx j (by omega)
          · omega
      · have e : g.n = h.n ∧ g.es = h.es := ⟨hn, List.ext_getElem? fun j => by
          by_cases hj : j < g.es.length
          · exact hx j (by omega)
          · rw [List.getElem?_eq_none (by omega), List.getElem?_eq_none (by omega)]⟩
        refine zR (zc @Int.ofNat_lt (zc @eRows_len trivial)) trivial trivial ?_
        simp [Rets, aret, Blk.cells, ty, Tryz.results69, ares, toT1, toT, borrow, borrow0, capCell, toTree0, tbool, e]
  · have e : ¬ (g.n = h.n ∧ g.es = h.es) := fun e => by omega
    simp [Rets, aret, Blk.cells, ty, Tryz.results69, ares, toT1, toT, borrow, borrow0, capCell, toTree0, tbool, e]
end Go.Proofs.YtfkegnhpihoncaaGreat
set_option linter.all false
namespace Go.Proofs.YtfkegnhpihoncaaGreat
open Go.Sp
set_option linter.unusedSimpArgs false
set_option linter.unusedVariables false
set_option maxHeartbeats 4000000
set_option maxRecDepth 100000
def fT (F : List Nat) : List Tree := F.map fun (n : Nat) => Tree.int .i64 (n : Int)
def fC (F : List Nat) : List ACell := F.map fun (n : Nat) => ACell.int .i64 (n : Int)
structure FOk (F : List Nat) : Prop where
  len : F.length = 12
  le : ∀ i (h : i < F.length), F[i] ≤ i
theorem fT_drop {F : List Nat} {i : Nat} (h : i < F.length) : (fT F).drop i = .int .i64 F[i] :: (fT F).drop (i + 1) := by
  have h' : i < (fT F).length := by simp [fT, h]
  rw [List.drop_eq_getElem_cons h']
  simp [fT]
def rootF (F : List Nat) : Nat → Nat → Nat
  | 0, v => v
  | n + 1, v => if F.getD v v = v then v else rootF F n (F.getD v v)
theorem rootF_fuel {F : List Nat} (h : FOk F) : ∀ {n m v : Nat}, v < 12 → v ≤ n → v ≤ m → rootF F n v = rootF F m v := by
  intro n
  induction n with
  | zero =>
    intro m v _ h1 h2
    have : v = 0 := by omega
    subst this
    cases m with
    | zero => rfl
    | succ m =>
      have h3 := h.le 0 (by rw [h.len]; omega)
      simp only [rootF]
      rw [List.getD_eq_getElem?_getD, List.getElem?_eq_getElem (by rw [h.len]; omega), Option.getD_some, if_pos (by omega)]
  | succ n ih =>
    intro m v hv h1 h2
    have hl : v < F.length := by rw [h.len]; exact hv
    have h3 := h.le v hl
    have e : F.getD v v = F[v] := by rw [List.getD_eq_getElem?_getD, List.getElem?_eq_getElem hl, Option.getD_some]
    cases m with
    | zero =>
      have : v = 0 := by omega
      subst this
      simp only [rootF, e]
      rw [if_pos (by omega)]
    | succ m =>
      simp only [rootF, e]
      by_cases hx : F[v] = v
      · rw [if_pos hx, if_pos hx]
      · rw [if_neg hx, if_neg hx]
        exact ih (by omega) (by omega) (by omega)
theorem rootF_step {F : List Nat} (h : FOk F) {v : Nat} (hv : v < F.length) : rootF F 12 v = if F[v] = v then v else rootF F 12 F[v] := by
  have hv' : v < 12 := by rw [← h.len]; exact hv
  have e : F.getD v v = F[v] := by rw [List.getD_eq_getElem?_getD, List.getElem?_eq_getElem hv, Option.getD_some]
  have h3 := h.le v hv
  have : rootF F 12 v = if F[v] = v then v else rootF F 11 F[v] := by
    show (if F.getD v v = v then v else rootF F 11 (F.getD v v)) = _
    rw [e]
  rw [this]
  by_cases hx : F[v] = v
  · rw [if_pos hx, if_pos hx]
  · rw [if_neg hx, if_neg hx]; exact rootF_fuel h (by omega) (by omega) (by omega)
theorem rootF_le {F : List Nat} (h : FOk F) : ∀ {n v : Nat}, v < 12 → rootF F n v ≤ v := by
  intro n
  induction n with
  | zero => intro v _; exact Nat.le_refl _
  | succ n ih =>
    intro v hv
    have hl : v < F.length := by rw [h.len]; exact hv
    have h3 := h.le v hl
    have e : F.getD v v = F[v] := by rw [List.getD_eq_getElem?_getD, List.getElem?_eq_getElem hl, Option.getD_some]
    simp only [rootF, e]
    split
    · exact Nat.le_refl _
    · exact Nat.le_trans (ih (by omega)) h3
end Go.Proofs.YtfkegnhpihoncaaGreat
set_option linter.all false
namespace Go.Proofs.YtfkegnhpihoncaaGreat
open Go.Sp
set_option linter.unusedSimpArgs false
set_option linter.unusedVariables false
set_option maxHeartbeats 4000000
set_option maxRecDepth 100000
def genStep (s : List Nat × Int) (p : Int × Int) : List Nat × Int :=
  let a := rootF s.1 12 p.1.toNat
  let b := rootF s.1 12 p.2.toNat
  (s.1.set (max a b) (min a b), if a = b then s.2 + 1 else s.2)
def genS (l : List (Int × Int)) : List Nat × Int := l.foldl genStep (List.range 12, 0)
def genL (l : List (Int × Int)) : Int := (genS l).2
theorem genS_snoc (l : List (Int × Int)) (p : Int × Int) : genS (l ++ [p]) = genStep (genS l) p := by simp [genS]
theorem genStep_ok {s : List Nat × Int} {p : Int × Int} (h : FOk s.1) (h1 : 0 ≤ p.1 ∧ p.1 < 12) (h2 : 0 ≤ p.2 ∧ p.2 < 12) : FOk (genStep s p).1 := by
  refine ⟨by simp [genStep, h.len], fun i hi => ?_⟩
  simp only [genStep] at hi ⊢
  rw [List.getElem_set]
  split
  · omega
  · exact h.le i (by simpa using hi)
theorem genS_ok {l : List (Int × Int)} (h : ∀ p, p ∈ l → (0 ≤ p.1 ∧ p.1 < 12) ∧ (0 ≤ p.2 ∧ p.2 < 12)) : FOk (genS l).1 ∧ 0 ≤ (genS l).2 ∧ (genS l).2 ≤ l.length := by
  have key : ∀ (l : List (Int × Int)) (s : List Nat × Int), FOk s.1 → (∀ p, p ∈ l → (0 ≤ p.1 ∧ p.1 < 12) ∧ (0 ≤ p.2 ∧ p.2 < 12)) → FOk (l.foldl genStep s).1 ∧ s.2 ≤ (l.foldl genStep s).2 ∧ (l.foldl genStep s).2 ≤ s.2 + l.length := by
    intro l
    induction l with
    | nil => intro s hs _; simp; exact hs
    | cons p l ih =>
      intro s hs hp
      have hp1 := hp p (by simp)
      obtain ⟨q1, q2, q3⟩ := ih (genStep s p) (genStep_ok hs hp1.1 hp1.2) fun q hq => hp q (by simp [hq])
      refine ⟨q1, ?_, ?_⟩
      · refine Int.le_trans ?_ q2; simp only [genStep]; split <;> omega
      · refine Int.le_trans q3 ?_; simp only [genStep, List.length_cons]; split <;> omega
  have := key l (List.range 12, 0) ⟨by simp, fun i hi => by simp⟩ h
  unfold genS
  simpa using this
theorem fC_set (F : List Nat) (i n : Nat) : setMany (fC F) i [.int .i64 (n : Int)] = fC (F.set i n) := by
  simp only [setMany, fC]
  rw [List.map_set]
theorem fC_set2 (F : List Nat) (i n : Nat) : (fC F).set i (.int .i64 (n : Int)) = fC (F.set i n) := by
  simp only [fC]
  rw [List.map_set]
theorem fC_len (F : List Nat) : (fC F).length = F.length := by simp [fC]
theorem endsL_mem {es : List E} {p : Int × Int} (h : p ∈ endsL es) : ∃ e, e ∈ es ∧ p = (e.a, e.b) := by
  unfold endsL at h
  obtain ⟨e, he, hp⟩ := List.mem_flatMap.1 h
  exact ⟨e, he, (List.mem_replicate.1 hp).2⟩
theorem ends_range {g : G} (hc : checkG g = 0) {p : Int × Int} (h : p ∈ endsL g.es) : (0 ≤ p.1 ∧ p.1 < g.n) ∧ (0 ≤ p.2 ∧ p.2 < g.n) := by
  obtain ⟨e, he, rfl⟩ := endsL_mem h
  have := (checkG_zero.1 hc).2.1 e he
  unfold okE at this
  simp only; omega
theorem mapM_fT (F : List Nat) : (fC F).mapM toTree0 = some (fT F) := by
  induction F with
  | nil => rfl
  | cons x xs ih =>
    simp only [fC, fT, List.map_cons, List.mapM_cons, toTree0] at ih ⊢
    rw [ih]; rfl
def initF (i : Nat) : List Nat := List.range i ++ List.replicate (12 - i) 0
theorem initF_set {i : Nat} (h : i < 12) : (initF i).set i i = initF (i + 1) := by
  unfold initF
  rw [show 12 - i = (12 - (i + 1)) + 1 by omega, List.replicate_succ, List.range_succ]
  rw [List.set_append_right _ _ (by simp)]
  simp
theorem initF_len {i : Nat} (h : i ≤ 12) : (initF i).length = 12 := by unfold initF; simp; omega
theorem initF_12 : initF 12 = List.range 12 := by unfold initF; simp
end Go.Proofs.YtfkegnhpihoncaaGreat
