/- A part of the proof. -/
import Derived.Test.YtfkegnhpihoncaaGreatPart10
import Derived.Test.YtfkegnhpihoncaaGreatLayerB
import Derived.Test.YtfkegnhpihoncaaGreatLayerC
set_option linter.all false
set_option maxHeartbeats 4000000
set_option maxRecDepth 100000
namespace Go.Proofs.YtfkegnhpihoncaaGreat
open Go.Sp
theorem mapBag : tMap Tryz.prog 118 = some (121, 3) := by simp only [ty]
theorem zero3 : tZero Tryz.prog 3 = some (.int .i64 0) := by simp only [ty]
def cntL : List E → Int → Int → Int
 | [], _, _ => 0
 | x :: xs, a, b => if x.a = a ∧ x.b = b then x.m else cntL xs a b
def bagPut : List E → Int → Int → Int → List E
 | [], a, b, m => [⟨a, b, m⟩]
 | x :: xs, a, b, m => if x.a = a ∧ x.b = b then ⟨a, b, m⟩ :: xs else x :: bagPut xs a b m
theorem key_eq (x : E) (a b : Int) : ((kvE x).1 == MKey.ints [a, b]) = decide (x.a = a ∧ x.b = b) := by
 rw [Bool.eq_iff_iff]; simp [kvE]
theorem mIdx_cons (x : E) (xs : List E) (a b : Int) : mIdx (mE (x :: xs)) (.ints [a, b]) = if x.a = a ∧ x.b = b then some 0 else (mIdx (mE xs) (.ints [a, b])).map (· + 1) := by
 simp only [mIdx, mE, List.map_cons, List.findIdx?_cons, key_eq]
 by_cases h : x.a = a ∧ x.b = b <;> simp [h]
theorem mVal_mE (es : List E) (a b : Int) : mVal (mE es) (.ints [a, b]) (.c (.int .i64 0)) = .c (.int .i64 (cntL es a b)) := by
 induction es with
 | nil => simp [mVal, mIdx, mE, cntL]
 | cons x xs ih =>
  unfold mVal at ih ⊢
  rw [mIdx_cons]
  by_cases h : x.a = a ∧ x.b = b
  ·simp [h, cntL, mE, kvE]
  ·rw [if_neg h]
   simp only [cntL, if_neg h, ← ih]
   cases hx : mIdx (mE xs) (.ints [a, b]) with
   | none => rfl
   | some j => simp [mE]
theorem mPut_mE (es : List E) (a b m : Int) : mPut (mE es) (.ints [a, b]) (.c (.int .i64 m)) = mE (bagPut es a b m) := by
 induction es with
 | nil => simp [mPut, mIdx, mE, bagPut, kvE]
 | cons x xs ih =>
  unfold mPut at ih ⊢
  rw [mIdx_cons]
  by_cases h : x.a = a ∧ x.b = b
  ·simp [h, bagPut, mE, kvE]
  ·rw [if_neg h]
   simp only [bagPut, if_neg h]
   have e : mE (x :: bagPut xs a b m) = kvE x :: mE (bagPut xs a b m) := rfl
   rw [e, ← ih]
   cases hx : mIdx (mE xs) (.ints [a, b]) with
   | none => simp [mE]
   | some j => simp [mE]
def bagStep (es : List E) (p : Int × Int) : List E := bagPut es (min p.1 p.2) (max p.1 p.2) (cntL es (min p.1 p.2) (max p.1 p.2) + 1)
def bagL (l : List (Int × Int)) : List E := l.foldl bagStep []
theorem mStamp_lt (es : List (MKey × MV)) (k : MKey) (z : MV) : mStamp es k < (mAdd es k z).length := by
 unfold mStamp mAdd mHas
 cases h : mIdx es k with
 | none => simp
 | some i =>
  obtain ⟨v, hv⟩ := mIdx_some h
  have := (List.getElem?_eq_some_iff.1 hv).1
  simpa using this
theorem bagL_snoc (l : List (Int × Int)) (p : Int × Int) : bagL (l ++ [p]) = bagStep (bagL l) p := by simp [bagL]
theorem bagPut_mem {es : List E} {a b m : Int} {e : E} (h : e ∈ bagPut es a b m) : e ∈ es ∨ e = ⟨a, b, m⟩ := by
 induction es with
 | nil => simp [bagPut] at h; exact .inr h
 | cons x xs ih =>
  simp only [bagPut] at h
  split at h
  ·rcases List.mem_cons.1 h with h | h
   ·exact .inr h
   ·exact .inl (by simp [h])
  ·rcases List.mem_cons.1 h with h | h
   ·exact .inl (by simp [h])
   ·rcases ih h with h | h
    ·exact .inl (by simp [h])
    ·exact .inr h
theorem bagPut_distinct {es : List E} {a b m : Int} (h : distinctE es) : distinctE (bagPut es a b m) := by
 induction es with
 | nil => simp [bagPut, distinctE]
 | cons x xs ih =>
  unfold distinctE at *
  rw [List.pairwise_cons] at h
  simp only [bagPut]
  split
  ·rename_i hx
   refine List.pairwise_cons.2 ⟨fun y hy => ?_, h.2⟩
   have := h.1 y hy
   unfold neE at *; simp only; omega
  ·rename_i hx
   refine List.pairwise_cons.2 ⟨fun y hy => ?_, ih h.2⟩
   rcases bagPut_mem hy with hy | hy
   ·exact h.1 y hy
   ·subst hy; unfold neE; simp only; omega
theorem bagPut_len (es : List E) (a b m : Int) : (bagPut es a b m).length ≤ es.length + 1 := by
 induction es with
 | nil => simp [bagPut]
 | cons x xs ih => simp only [bagPut]; split <;> simp <;> omega
theorem cntL_le {es : List E} {a b k : Int} (h : ∀ e, e ∈ es → e.m ≤ k) (hk : 0 ≤ k) : cntL es a b ≤ k := by
 induction es with
 | nil => simpa [cntL] using hk
 | cons x xs ih => simp only [cntL]; split; exact h x (by simp); exact ih fun e he => h e (by simp [he])
theorem cntL_ge {es : List E} {a b : Int} (h : ∀ e, e ∈ es → 1 ≤ e.m) : 0 ≤ cntL es a b := by
 induction es with
 | nil => simp [cntL]
 | cons x xs ih => simp only [cntL]; split; have := h x (by simp); omega; exact ih fun e he => h e (by simp [he])
structure BagOk (n : Int) (k : Nat) (es : List E) : Prop where
 d : distinctE es
 len : es.length ≤ k
 m : ∀ e, e ∈ es → 1 ≤ e.m ∧ e.m ≤ k
 r : ∀ e, e ∈ es → 0 ≤ e.a ∧ e.a ≤ e.b ∧ e.b < n
theorem bag_step {n : Int} {k : Nat} {es : List E} (h : BagOk n k es) {p : Int × Int} (h1 : 0 ≤ p.1 ∧ p.1 < n) (h2 : 0 ≤ p.2 ∧ p.2 < n) : BagOk n (k + 1) (bagStep es p) := by
 have c1 := cntL_le (a := min p.1 p.2) (b := max p.1 p.2) (k := k) (fun e he => (h.m e he).2) (by omega)
 have c2 := cntL_ge (a := min p.1 p.2) (b := max p.1 p.2) (fun e he => (h.m e he).1)
 refine ⟨bagPut_distinct h.d, Nat.le_trans (bagPut_len ..) (by have := h.len; omega), fun e he => ?_, fun e he => ?_⟩
 ·rcases bagPut_mem he with he | rfl
  ·have := h.m e he; omega
  ·simp only; omega
 ·rcases bagPut_mem he with he | rfl
  ·exact h.r e he
  ·simp only; omega
theorem bag_keys {n : Int} {k : Nat} {es : List E} (hn : n ≤ 12) (h : BagOk n k es) : ∀ e, e ∈ mE es → (KShape.ints 2).ok e.1 = true := by
 intro e he
 obtain ⟨x, hx, rfl⟩ := List.mem_map.1 he
 have := h.r x hx
 simp only [KShape.ok, kvE, List.length_cons, List.length_nil, Bool.and_eq_true, beq_iff_eq, List.all_eq_true, List.mem_cons, List.not_mem_nil, or_false, decide_eq_true_eq]
 exact ⟨trivial, fun y hy => by rcases hy with rfl | rfl <;> omega⟩
theorem key_ok {a b : Int} (h1 : 0 ≤ a ∧ a < 12) (h2 : 0 ≤ b ∧ b < 12) : (KShape.ints 2).ok (.ints [a, b]) = true := by
 simp only [KShape.ok, List.length_cons, List.length_nil, Bool.and_eq_true, beq_iff_eq, List.all_eq_true, List.mem_cons, List.not_mem_nil, or_false, decide_eq_true_eq]
 exact ⟨trivial, fun y hy => by rcases hy with rfl | rfl <;> omega⟩
open Classical in
noncomputable def makeE (n : Int) (l : List (Int × Int)) : G × Int :=
 if n < 1 ∨ 12 < n then (⟨0, []⟩, 2) else if 4096 < l.length then (⟨0, []⟩, 5)
 else if ∃ p, p ∈ l ∧ ¬ ((0 ≤ p.1 ∧ p.1 < n) ∧ (0 ≤ p.2 ∧ p.2 < n)) then (⟨0, []⟩, 2)
 else if ∃ e, e ∈ bagL l ∧ 50 < e.m then (⟨0, []⟩, 5) else (⟨n, sortE (bagL l)⟩, 0)
theorem Make_ok (n : Int) (l : List (Int × Int)) (hl : l.length < 2 ^ 40) : ACall Tryz.prog 57 [tint n, tpairs l] (.tup [tG (makeE n l).1, tint (makeE n l).2]) := by
 refine ACall.of_body Tryz.func57 rfl (by kernel_rfl) ?_
 simp only [entry, Tryz.ntmps57, tint, tpairs]
 refine zU ?_
 repeat' (first|((first|(refine zT ?_;intro K' hK')|(refine zG ?_ ?_<;>(try refine zH ?_)<;>intro hguard<;>(try exact zX)<;>try intro K' hK'))<;>((try simp +contextual only [go_sem, pRows_len, Int.ofNat_lt]);(repeat' first|(with_reducible refine hK' _ _ ?_;clear hK' K')|exact zY|with_reducible refine And.intro ?_ ?_|(with_reducible intro hpath;try exact zP)|(refine hK' _ _ ?_;clear hK' K')|fail);try refine zS ?_))|(refine zE ?_;refine hK _ _ ?_;clear hK K)|(refine zN ?_;try refine zS ?_)|refine zA ?_|(refine zB ?_;intro K hK)|(refine zC ?_ ?_<;>(try refine zH ?_)<;>intro hcond<;>try exact zX)|fail)
 ·have e : makeE n l = (⟨0, []⟩, 2) := by unfold makeE; rw [if_pos (by omega)]
  simp [Rets, aret, Blk.cells, ty, Tryz.results57, ares, toT1, toT, borrow, borrow0, capCell, toTree0, tint, tG, e, eRows]
 ·have e : makeE n l = (⟨0, []⟩, 5) := by unfold makeE; rw [if_neg (by omega), if_pos (by omega)]
  simp [Rets, aret, Blk.cells, ty, Tryz.results57, ares, toT1, toT, borrow, borrow0, capCell, toTree0, tint, tG, e, eRows]
 ·have hl2 : l.length ≤ 4096 := by omega
  refine AWp.loopS (α:=Nat) 65 (fun i=>[(0,.c (.int .i64 n)),(4,.c (.ptr 0 0)),(6,.c (.map 1)),(23,.c (.slice (pRows l) .none)),(24,.c (.int .i64 (l.length : Int))),(25,.c (.int .i64 (i : Int)))]) (fun i=>[.box [.int .i64 0, .nils], .map (mE (bagL (l.take i)))]) (fun i=>i ≤ l.length ∧ (∀ j, j < i → ∀ p, l[j]? = some p → (0 ≤ p.1 ∧ p.1 < n) ∧ (0 ≤ p.2 ∧ p.2 < n)) ∧ BagOk n i (bagL (l.take i))) (fun i=>l.length - i) (0) (hk:=Weak.headL 2 65 [0, 4, 6, 23, 24, 25] zW) (h0:=?_) (round:=fun i hI=>?_)
  ·refine ⟨Nat.zero_le _, fun j hj => by omega, ?_⟩
   simp only [List.take_zero, bagL, List.foldl_nil]
   exact ⟨List.Pairwise.nil, by simp, by simp, by simp⟩
  ·obtain ⟨hi, hval, hbag⟩ := hI
   by_cases hlt : i < l.length
   ·have e0 := List.getElem?_eq_getElem hlt
    have e1 := pRows_get e0
    have hsn : l.take (i + 1) = l.take i ++ [l[i]] := List.take_succ_eq_append_getElem hlt
    generalize l[i] = p at *
    by_cases hv : (0 ≤ p.1 ∧ p.1 < n) ∧ (0 ≤ p.2 ∧ p.2 < n)
    ·have hk := key_ok (a := min p.1 p.2) (b := max p.1 p.2) (by omega) (by omega)
     have hks := bag_keys (by omega) hbag
     have hc1 := cntL_le (a := min p.1 p.2) (b := max p.1 p.2) (k := i) (fun e he => (hbag.m e he).2) (by omega)
     have hc2 := cntL_ge (a := min p.1 p.2) (b := max p.1 p.2) (fun e he => (hbag.m e he).1)
     have hst := bag_step hbag hv.1 hv.2
     rw [← bagL_snoc, ← hsn] at hst
     have hnx : bagL (l.take (i + 1)) = bagStep (bagL (l.take i)) p := by rw [hsn, bagL_snoc]
     generalize bagL (l.take i) = es at *
     repeat' (first|(with_reducible refine AWp.seq_drawM mapBag klPair zero3 (by with_unfolding_all rfl) (by with_unfolding_all kernel_rfl) (fun K hK=>?_))|(with_reducible refine AWp.last_drawM mapBag klPair zero3 (by with_unfolding_all rfl) (by with_unfolding_all kernel_rfl) (fun K hK=>?_))|((first|(refine zT ?_;intro K' hK')|(refine zG ?_ ?_<;>(try refine zH ?_)<;>intro hguard<;>(try exact zX)<;>try intro K' hK'))<;>((try simp +contextual only [go_sem, e1, Int.toNat_natCast, Int.ofNat_lt, pRows_len, toKey, mVal_mE, hv.1, hv.2, mSet_mAdd, mPut_mE]);(repeat' first|(with_reducible refine hK' _ _ ?_;clear hK' K')|((with_reducible first|refine zK (vertex_ok _ _) ?_|refine zK (joined_ok _ _) ?_);try simp +contextual only [go_sem, e1, Int.toNat_natCast, Int.ofNat_lt, pRows_len, toKey, mVal_mE, hv.1, hv.2, mSet_mAdd, mPut_mE])|(exact hk)|(exact hks)|(with_reducible refine ⟨_,rfl,?_⟩;try simp +contextual only [go_sem, e1, Int.toNat_natCast, Int.ofNat_lt, pRows_len, toKey, mVal_mE, hv.1, hv.2, mSet_mAdd, mPut_mE])|(exact mStamp_lt _ _ _)|exact zY|with_reducible refine And.intro ?_ ?_|(with_reducible intro hpath;try exact zP)|(refine hK' _ _ ?_;clear hK' K')|fail);try refine zS ?_))|(refine zE ?_;refine hK _ _ ?_;clear hK K)|(refine zN ?_;try refine zS ?_)|refine zA ?_|(refine zB ?_;intro K hK)|(refine zC ?_ ?_<;>(try refine zH ?_)<;>intro hcond<;>try exact zX)|fail)
     refine ⟨i + 1,Weak.headN 2 65 [0, 4, 6, 23, 24, 25] zW (e1:=by first|rfl|(simp [mask,keepL, hnx, bagStep];done)|(simp [mask,keepL, hnx, bagStep]<;>simp_all<;>omega)) (e2:=by first|rfl|(simp [mask,keepL, hnx, bagStep];done)|(simp [mask,keepL, hnx, bagStep]<;>simp_all<;>omega)),?_,?_⟩
     ·refine ⟨hlt, fun j hj q hjq => ?_, hst⟩
      by_cases hji : j = i
      ·subst hji; rw [e0] at hjq; cases hjq; exact hv
      ·exact hval j (by omega) q hjq
     ·omega
    ·have e : makeE n l = (⟨0, []⟩, 2) := by
      unfold makeE
      rw [if_neg (by omega), if_neg (by omega), if_pos ⟨p, List.mem_of_getElem? e0, hv⟩]
     repeat' (first|((first|(refine zT ?_;intro K' hK')|(refine zG ?_ ?_<;>(try refine zH ?_)<;>intro hguard<;>(try exact zX)<;>try intro K' hK'))<;>((try simp +contextual only [go_sem, e1, Int.toNat_natCast, Int.ofNat_lt, pRows_len]);(repeat' first|(with_reducible refine hK' _ _ ?_;clear hK' K')|(with_reducible refine zK (vertex_ok _ _) ?_;try simp +contextual only [go_sem, e1, Int.toNat_natCast, Int.ofNat_lt, pRows_len])|exact zY|with_reducible refine And.intro ?_ ?_|(with_reducible intro hpath;try exact zP)|(refine hK' _ _ ?_;clear hK' K')|fail);try refine zS ?_))|(refine zE ?_;refine hK _ _ ?_;clear hK K)|(refine zN ?_;try refine zS ?_)|refine zA ?_|(refine zB ?_;intro K hK)|(refine zC ?_ ?_<;>(try refine zH ?_)<;>intro hcond<;>try exact zX)|fail)
     all_goals first
      | (exfalso; simp_all; omega)
      | (
       simp [Rets, aret, Blk.cells, ty, Tryz.results57, ares, toT1, toT, borrow, borrow0, capCell, toTree0, tint, tG, e, eRows]
       done)
   ·have ei : i = l.length := by omega
    subst ei
    rw [List.take_length] at hbag ⊢
    have hall : ¬ ∃ p, p ∈ l ∧ ¬ ((0 ≤ p.1 ∧ p.1 < n) ∧ (0 ≤ p.2 ∧ p.2 < n)) := fun ⟨p, hp, hv⟩ => by
     obtain ⟨j, hj⟩ := List.mem_iff_getElem?.1 hp
     exact hv (hval j (List.getElem?_eq_some_iff.1 hj).1 p hj)
    have hes : ∀ es, es = bagL l → makeE n l = if ∃ e, e ∈ es ∧ 50 < e.m then (⟨0, []⟩, 5) else (⟨n, sortE es⟩, 0) := fun es he => by
     unfold makeE
     rw [if_neg (by omega), if_neg (by omega), if_neg hall, he]
    generalize bagL l = es at *
    have hmk := hes es rfl
    have hel := hbag.len
    refine zR (zc @Int.ofNat_lt trivial) trivial trivial ?_
    refine AWp.loopS (α:=List Nat) 65 (fun seen=>[(0,.c (.int .i64 n)),(4,.c (.ptr 0 0)),(6,.c (.map 1)),(54,.c (.iter 2))]) (fun seen=>[.box [.int .i64 0, .nils], .map (mE es), .iter 1 (mE es).length seen]) (fun seen=>seen.Nodup ∧ (∀ j, j ∈ seen → j < es.length) ∧ ∀ j, j ∈ seen → ∀ e, es[j]? = some e → e.m ≤ 50) (fun seen=>es.length - seen.length) ([]) (hk:=Weak.headL 3 65 [0, 4, 6, 54] zW) (h0:=?_) (round:=fun seen hI=>?_)
    ·exact ⟨List.nodup_nil, fun j hj => (by cases hj), fun j hj => (by cases hj)⟩
    ·obtain ⟨hn, hlt2, hm50⟩ := hI
     have hsl := nodup_len hn hlt2
     refine AWp.seq_next rfl rfl rfl rfl rfl (fun hd K hK => ?_) (fun j e hj he K hK => ?_) <;> (try refine zS ?_)
     ·have e : makeE n l = (⟨n, sortE es⟩, 0) := by
       rw [hmk, if_neg]
       rintro ⟨e, he, h50⟩
       obtain ⟨j, hj⟩ := List.mem_iff_getElem?.1 he
       have := hm50 j (hd j (by rw [mE_len]; exact (List.getElem?_eq_some_iff.1 hj).1)) e hj
       omega
      repeat' (first|((first|(refine zT ?_;intro K' hK')|(refine zG ?_ ?_<;>(try refine zH ?_)<;>intro hguard<;>(try exact zX)<;>try intro K' hK'))<;>((try simp +contextual only [go_sem]);(repeat' first|(with_reducible refine hK' _ _ ?_;clear hK' K')|((with_reducible first|refine ⟨_,_,ACallX.h1 (graph_ok n es hbag.d (by omega)) (by with_unfolding_all rfl) (by with_unfolding_all rfl),?_⟩|refine ⟨_,ACallX.h1 (graph_ok n es hbag.d (by omega)) (by with_unfolding_all rfl) (by with_unfolding_all rfl),?_⟩);try simp +contextual only [go_sem])|exact zY|with_reducible refine And.intro ?_ ?_|(with_reducible intro hpath;try exact zP)|(refine hK' _ _ ?_;clear hK' K')|fail);try refine zS ?_))|(refine zE ?_;refine hK _ _ ?_;clear hK K)|(refine zN ?_;try refine zS ?_)|refine zA ?_|(refine zB ?_;intro K hK)|(refine zC ?_ ?_<;>(try refine zH ?_)<;>intro hcond<;>try exact zX)|fail)
      simp [Rets, aret, Blk.cells, ty, Tryz.results57, ares, toT1, toT, borrow, borrow0, capCell, toTree0, tint, tG, e, eRows]
     ·obtain ⟨x, hx, rfl⟩ := mE_get he
      have hje : j < es.length := (List.getElem?_eq_some_iff.1 hx).1
      have hnd : (seen ++ [j]).Nodup := List.nodup_append.2 ⟨hn, by simp, fun a ha b hb => by simp at hb; subst hb; rintro rfl; exact hj ha⟩
      have hlt3 : ∀ i, i ∈ seen ++ [j] → i < es.length := fun i hi => by
       rcases List.mem_append.1 hi with hi | hi
       ·exact hlt2 i hi
       ·simp at hi; subst hi; exact hje
      have hsl2 := nodup_len hnd hlt3
      simp only [kvE, keyVal, mvVal]
      repeat' (first|((first|(refine zT ?_;intro K' hK')|(refine zG ?_ ?_<;>(try refine zH ?_)<;>intro hguard<;>(try exact zX)<;>try intro K' hK'))<;>((try simp +contextual only [go_sem, mE_at hx, kvE, mE_len]);(repeat' first|(with_reducible refine hK' _ _ ?_;clear hK' K')|exact zY|with_reducible refine And.intro ?_ ?_|(with_reducible intro hpath;try exact zP)|(refine hK' _ _ ?_;clear hK' K')|fail);try refine zS ?_))|(refine zE ?_;refine hK _ _ ?_;clear hK K)|(refine zN ?_;try refine zS ?_)|refine zA ?_|(refine zB ?_;intro K hK)|(refine zC ?_ ?_<;>(try refine zH ?_)<;>intro hcond<;>try exact zX)|fail)
      ·have e : makeE n l = (⟨0, []⟩, 5) := by
        rw [hmk, if_pos ⟨x, List.mem_of_getElem? hx, by omega⟩]
       simp [Rets, aret, Blk.cells, ty, Tryz.results57, ares, toT1, toT, borrow, borrow0, capCell, toTree0, tint, tG, e, eRows]
      ·refine ⟨seen ++ [j],Weak.headF 3 65 [0, 4, 6, 54] (zc @mE_len trivial) zW,?_,?_⟩
       ·refine ⟨hnd, hlt3, fun i hi e hie => ?_⟩
        rcases List.mem_append.1 hi with hi | hi
        ·exact hm50 i hi e hie
        ·simp at hi; subst hi; rw [hx] at hie; cases hie; omega
       ·simp at hsl2 ⊢; omega
 ·have e : makeE n l = (⟨0, []⟩, 2) := by unfold makeE; rw [if_pos (by omega)]
  simp [Rets, aret, Blk.cells, ty, Tryz.results57, ares, toT1, toT, borrow, borrow0, capCell, toTree0, tint, tG, e, eRows]
end Go.Proofs.YtfkegnhpihoncaaGreat
namespace Go.Proofs.YtfkegnhpihoncaaGreat
open Go.Sp
theorem tdiv2 (h : Nat) : Int.tdiv (h : Int) 2 = ((h / 2 : Nat) : Int) := rfl
theorem tmod2 (h : Nat) : Int.tmod (h : Int) 2 = ((h % 2 : Nat) : Int) := rfl
theorem atH_ok (L : List (Int × Int)) (h : Nat) (hh : h < 2 * L.length) (hl : L.length < 2 ^ 30) : ACall Tryz.prog 71 [tpairs L, tint h] (tint (atL L h)) := by
 have e0 : L[h / 2]? = some L[h / 2] := List.getElem?_eq_getElem (by omega)
 have e1 := pRows_get e0
 have ea : atL L h = if h % 2 = 0 then L[h / 2].1 else L[h / 2].2 := by unfold atL; rw [List.getD_eq_getElem?_getD, e0]; rfl
 have hlt : ((h / 2 : Nat) : Int) < L.length := by omega
 rw [ea]
 generalize L[h / 2] = p at *
 obtain ⟨a, b⟩ := p
 refine ACall.of_body Tryz.func71 rfl (by kernel_rfl) ?_
 simp only [entry, Tryz.ntmps71, tpairs, tint]
 refine zU ?_
 have hm : h % 2 = 0 ∨ h % 2 = 1 := by omega
 rcases hm with hm | hm
 ·
  refine zR (zc @tdiv2 (zc @tmod2 (zc @hm (zc @hlt (zc @pRows_len (zc @e1 trivial)))))) trivial trivial ?_
  simp [Rets, aret, Blk.cells, ty, Tryz.results71, ares, toT1, toT, borrow, borrow0, capCell, toTree0, tint, hm]
 ·
  refine zR (zc @tdiv2 (zc @tmod2 (zc @hm (zc @hlt (zc @pRows_len (zc @e1 trivial)))))) trivial trivial ?_
  simp [Rets, aret, Blk.cells, ty, Tryz.results71, ares, toT1, toT, borrow, borrow0, capCell, toTree0, tint, hm]
@[simp] theorem chJ_halves (L : List (Int × Int)) (n k : Nat) : (chJ (halvesL L n k)).take n = chJ (halvesL L n k) := chJ_take (by rw [halvesL_len]; exact Nat.le_refl _)
theorem halves_ok (L : List (Int × Int)) (n : Nat) (hn : n < 2 ^ 20) (hl : L.length < 2 ^ 20) (hr : ∀ h, h < 2 * L.length → 0 ≤ atL L h ∧ atL L h < n) :
  ACall Tryz.prog 67 [tint n, tpairs L] (tlists (halvesL L n (2 * L.length))) := by
 refine ACall.of_body Tryz.func67 rfl (by kernel_rfl) ?_
 simp only [entry, Tryz.ntmps67, tpairs, tint]
 refine zU ?_
 repeat' (first|((first|(refine zT ?_;intro K' hK')|(refine zG ?_ ?_<;>(try refine zH ?_)<;>intro hguard<;>(try exact zX)<;>try intro K' hK'))<;>((try simp +contextual only [go_sem, made_nils, Int.toNat_natCast, Nat.mul_one, pRows_len, List.length_replicate]);(repeat' first|(with_reducible refine hK' _ _ ?_;clear hK' K')|exact zY|with_reducible refine And.intro ?_ ?_|(with_reducible intro hpath;try exact zP)|(refine hK' _ _ ?_;clear hK' K')|fail);try refine zS ?_))|(refine zE ?_;refine hK _ _ ?_;clear hK K)|(refine zN ?_;try refine zS ?_)|refine zA ?_|(refine zB ?_;intro K hK)|(refine zC ?_ ?_<;>(try refine zH ?_)<;>intro hcond<;>try exact zX)|fail)
 refine AWp.weak (Weak.openBs 0 n (pre := []) rfl (Nat.zero_le _)) ?_
 simp only [List.length_cons, List.length_nil, List.set_cons_zero, List.nil_append, List.cons_append, Nat.zero_add, chI_nil, chJ_nil, halvesL_zero L n]
 refine AWp.loopS (α:=Nat) 31 (fun k=>[(1,.c (.slice (pRows L) .none)),(5,.c (.ref 0 1 0 n n)),(11,.c (.int .i64 (2 * (L.length : Int)))),(12,.c (.int .i64 (k : Int)))]) (fun k=>.box (chI 1 (halvesL L n k)) :: chJ (halvesL L n k)) (fun k=>k ≤ 2 * L.length) (fun k=>2 * L.length - k) (0) (hk:=Weak.headL (n + 1) 31 [1, 5, 11, 12] (by (repeat' (first | exact valsIn_nil _ | exact blksIn_nil _ | exact cellsIn_nil _ | refine And.intro ?_ ?_ | refine valsIn_cons ?_ ?_ | refine blksIn_cons ?_ ?_ | refine cellsIn_cons ?_ ?_ | exact True.intro | exact chI_in (by rw [halvesL_len]; omega) | exact chJ_in | (show _ < _; omega) | exact cellsIn_map (fun _ => True.intro) | (intro c hc; cases hc; done) | (intro c hc; simp only [List.mem_cons, List.not_mem_nil, or_false] at hc; subst hc; exact True.intro) | (intro c hc; simp only [List.mem_cons, List.not_mem_nil, or_false] at hc; rcases hc with rfl | rfl <;> exact True.intro))))) (h0:=?_) (round:=fun k hI=>?_)
 ·exact Nat.zero_le _
 ·have hk : k ≤ 2 * L.length := hI
  clear hI
  by_cases hlt : k < 2 * L.length
  ·have hltI : (k : Int) < 2 * (L.length : Int) := by omega
   have hat := hr k hlt
   have hA := atH_ok L k hlt (by omega)
   obtain ⟨v, hv⟩ : ∃ v : Nat, atL L k = v := ⟨(atL L k).toNat, by omega⟩
   have hvn : v < n := by omega
   have hvI : (v : Int) < n := by omega
   have hnx := halvesL_succ hvn hv
   have hg := halvesL_get (L := L) (k := k) hvn
   have hol := ownL_len L (v : Int) k
   have hll := halvesL_len L n k
   rw [hv] at hA
   generalize ownL L (v : Int) k = o at *
   have g1 := chI_get (b := 1) hg
   have g2 := chI_drop (b := 1) hg
   have g3 := chJ_get hg
   have g4 := chI_set 1 v (halvesL L n k) (o ++ [(k : Int)])
   have g5 := chJ_set v (halvesL L n k) (o ++ [(k : Int)]) (n := o.length + 1) (by simp)
   rw [← hnx] at g4 g5
   refine zRc (zc @hltI (zc @hvI (zc @pRows_len (zc @g1 (zc @g2 (zc @g3 (zc @g4 (zc @g5 (zc @chI_len (zc @chJ_len (zc @hll (zc @iRows_len (zc @iRows_snoc trivial))))))))))))) (zc hA trivial) @iRows_k' ?_
   refine ⟨k + 1,Weak.headN (n + 1) 31 [1, 5, 11, 12] (by (repeat' (first | exact valsIn_nil _ | exact blksIn_nil _ | exact cellsIn_nil _ | refine And.intro ?_ ?_ | refine valsIn_cons ?_ ?_ | refine blksIn_cons ?_ ?_ | refine cellsIn_cons ?_ ?_ | exact True.intro | exact chI_in (by rw [halvesL_len]; omega) | exact chJ_in | (show _ < _; omega) | exact cellsIn_map (fun _ => True.intro) | (intro c hc; cases hc; done) | (intro c hc; simp only [List.mem_cons, List.not_mem_nil, or_false] at hc; subst hc; exact True.intro) | (intro c hc; simp only [List.mem_cons, List.not_mem_nil, or_false] at hc; rcases hc with rfl | rfl <;> exact True.intro)))),?_,?_⟩
   ·exact hlt
   ·omega
  ·have ek : k = 2 * L.length := by omega
   subst ek
   have hnl : ¬ (((2 * L.length : Nat) : Int) < 2 * (L.length : Int)) := by omega
   repeat' ((fail_if_success (with_reducible refine AWp.atSeq 7 ?_));(fail_if_success (with_reducible refine AWp.atLast 7 ?_));first|((first|(refine zT ?_;intro K' hK')|(refine zG ?_ ?_<;>(try refine zH ?_)<;>intro hguard<;>(try exact zX)<;>try intro K' hK'))<;>((try simp +contextual only [go_sem, hnl]);(repeat' first|(with_reducible refine hK' _ _ ?_;clear hK' K')|exact zY|with_reducible refine And.intro ?_ ?_|(with_reducible intro hpath;try exact zP)|(refine hK' _ _ ?_;clear hK' K')|fail);try refine zS ?_))|(refine zE ?_;refine hK _ _ ?_;clear hK K)|(refine zN ?_;try refine zS ?_)|refine zA ?_|(refine zB ?_;intro K hK)|(refine zC ?_ ?_<;>(try refine zH ?_)<;>intro hcond<;>try exact zX)|fail)
   refine AWp.boxData 5 0 1 ((halvesL L n (2 * L.length)).map iRows) rfl rfl (by rw [List.length_map, halvesL_len]) (Nat.le_refl _) ?_
   rw [chRows]
   simp only [List.set_cons_succ, List.set_cons_zero]
   refine zR trivial trivial trivial ?_
   simp [Rets, aret, Blk.cells, ty, Tryz.results67, ares, toT1, toT, borrow, borrow0, capCell, toTree0, tlists]
theorem isNaNc_ok (x : Int) : ACall Tryz.prog 141 [tint x] (tbool false) := by
 refine ACall.of_body Tryz.func141 rfl (by kernel_rfl) ?_
 simp only [entry, Tryz.ntmps141, tint]
 refine zU ?_
 refine zR trivial trivial trivial ?_
 simp [Rets, aret, Blk.cells, ty, Tryz.results141, ares, toT1, toT, borrow, borrow0, capCell, toTree0, tbool]
theorem isNaNs_ok (x : Int) : ACall Tryz.prog 159 [tint x] (tbool false) := by
 refine ACall.of_body Tryz.func159 rfl (by kernel_rfl) ?_
 simp only [entry, Tryz.ntmps159, tint]
 refine zU ?_
 refine zR trivial trivial trivial ?_
 simp [Rets, aret, Blk.cells, ty, Tryz.results159, ares, toT1, toT, borrow, borrow0, capCell, toTree0, tbool]
theorem Less_ok (x y : Int) : ACall Tryz.prog 117 [tint x, tint y] (tbool (decide (x < y))) := by
 refine ACall.of_body Tryz.func117 rfl (by kernel_rfl) ?_
 simp only [entry, Tryz.ntmps117, tint]
 refine zU ?_
 refine zR trivial (zc (isNaNc_ok x) (zc (isNaNc_ok y) trivial)) trivial ?_
 simp [Rets, aret, Blk.cells, ty, Tryz.results117, ares, toT1, toT, borrow, borrow0, capCell, toTree0, tbool]
theorem sshr1 (x : Int) : x.fdiv (2 ^ min 1 IntKind.u64.bits) = x / 2 := by
 rw [show (2 : Int) ^ min 1 IntKind.u64.bits = 2 by decide]
 exact Int.fdiv_eq_ediv_of_nonneg _ (by omega)
theorem sshr2 (x : Int) : x.fdiv (2 ^ min 1 64) = x / 2 := sshr1 x
def loI : List Int → Int → Nat
 | [], _ => 0
 | y :: ys, x => if y < x then loI ys x + 1 else 0
theorem loI_eq : ∀ {l : List Int} {x : Int} {i : Nat}, i ≤ l.length → (∀ k (h : k < l.length), k < i → l[k] < x) → (∀ h : i < l.length, ¬ l[i] < x) → loI l x = i
 | [], x, i, h, _, _ => by simp at h; simp [loI, h]
 | y :: ys, x, i, h, h1, h2 => by
  simp only [loI]
  cases i with
  | zero => exact if_neg (h2 (by simp))
  | succ i =>
   rw [if_pos (show y < x from h1 0 (by simp) (by omega)), loI_eq (i := i) (by simpa using h) (fun k hk hki => h1 (k + 1) (by simpa using hk) (by omega)) (fun hi => h2 (by simpa using hi))]
theorem BinI_ok (l : List Int) (x : Int) (hs : l.Pairwise (· < ·)) (hl : l.length < 2 ^ 40) :
  ACall Tryz.prog 131 [tints l, tint x] (.tup [tint (loI l x), tbool (decide (x ∈ l))]) := by
 rw [List.pairwise_iff_getElem] at hs
 refine ACall.of_body Tryz.func131 rfl (by kernel_rfl) ?_
 simp only [entry, Tryz.ntmps131, tints, tint]
 refine zU ?_
 refine zR (zc @iRows_len trivial) trivial trivial ?_
 refine AWp.loopS (α:=(Nat × Nat)) 54 (fun s=>[(0,.c (.slice (iRows l) .none)),(1,.c (.int .i64 x)),(6,.c (.int .i64 l.length)),(7,.c (.int .i64 (s.1 : Int))),(8,.c (.int .i64 (s.2 : Int)))]) (fun s=>[]) (fun s=>s.1 ≤ s.2 ∧ s.2 ≤ l.length ∧ (∀ k (h : k < l.length), k < s.1 → l[k] < x) ∧ (∀ k (h : k < l.length), s.2 ≤ k → ¬ l[k] < x)) (fun s=>s.2 - s.1) ((0, l.length)) (hk:=Weak.headL 0 54 [0, 1, 6, 7, 8] zW) (h0:=?_) (round:=fun s hI=>?_)
 ·exact ⟨Nat.zero_le _, Nat.le_refl _, fun k h hk => absurd hk (Nat.not_lt_zero _), fun k h hk => by omega⟩
 ·obtain ⟨i, j⟩ := s
  obtain ⟨hij, hj, h1, h2⟩ := hI
  simp only at hij hj h1 h2 ⊢
  by_cases hlt : i < j
  ·have hd : ((i : Int) + (j : Int)) / 2 = (((i + j) / 2 : Nat) : Int) := by omega
   have hm1 : i ≤ (i + j) / 2 := by omega
   have hm2 : (i + j) / 2 < j := by omega
   generalize (i + j) / 2 = m at *
   have hml : m < l.length := by omega
   have e1 := iRows_get (List.getElem?_eq_getElem hml)
   generalize hy : l[m] = y at *
   have hcall := Less_ok y x
   by_cases hlt2 : y < x
   ·rw [decide_eq_true hlt2] at hcall
    refine zR (zc @e1 (zc @sshr1 (zc @sshr2 (zc @hd (zc @Int.ofNat_lt (zc @iRows_len trivial)))))) (zc hcall trivial) trivial ?_
    refine ⟨(m + 1, j),Weak.headN 0 54 [0, 1, 6, 7, 8] zW,?_,?_⟩
    ·refine ⟨hm2, hj, fun k hk hki => ?_, h2⟩
     by_cases e : k = m
     ·subst e; rw [hy]; exact hlt2
     ·have := hs k m hk hml (by omega)
      omega
    ·simp only; omega
   ·rw [decide_eq_false hlt2] at hcall
    refine zR (zc @e1 (zc @sshr1 (zc @sshr2 (zc @hd (zc @Int.ofNat_lt (zc @iRows_len trivial)))))) (zc hcall trivial) trivial ?_
    refine ⟨(i, m),Weak.headN 0 54 [0, 1, 6, 7, 8] zW,?_,?_⟩
    ·refine ⟨hm1, by omega, h1, fun k hk hki => ?_⟩
     by_cases e : k = m
     ·subst e; rw [hy]; exact hlt2
     ·have := hs m k hml hk (by omega)
      omega
    ·simp only; omega
  ·have eij : i = j := by omega
   subst eij
   have hlo : loI l x = i := loI_eq hj h1 (fun h => h2 i h (Nat.le_refl _))
   rw [hlo]
   by_cases hil : i < l.length
   ·have e0 := List.getElem?_eq_getElem hil
    have e1 := iRows_get e0
    have hf : x ∈ l ↔ l[i] = x := by
     constructor
     ·intro hm
      obtain ⟨k, hk, e⟩ := List.mem_iff_getElem.1 hm
      rcases Nat.lt_trichotomy k i with h | h | h
      ·have := h1 k hk h; omega
      ·subst h; exact e
      ·have := hs i k hil hk h; have := h2 i hil (Nat.le_refl _); omega
     ·intro e; rw [← e]; exact List.getElem_mem hil
    generalize hy : l[i] = y at *
    rw [decide_eq_decide.2 hf]
    by_cases hxy : y = x
    ·subst hxy
     refine zR (zc @e1 (zc @Int.ofNat_lt (zc @iRows_len (zc @hil trivial)))) (zc (isNaNs_ok y) trivial) trivial ?_
     simp [Rets, aret, Blk.cells, ty, Tryz.results131, ares, toT1, toT, borrow, borrow0, capCell, toTree0, tint, tbool]
    ·rw [decide_eq_false hxy]
     refine zR (zc @e1 (zc @Int.ofNat_lt (zc @iRows_len (zc @hil (zc @hxy trivial))))) (zc (isNaNs_ok y) (zc (isNaNs_ok x) trivial)) trivial ?_
     simp [Rets, aret, Blk.cells, ty, Tryz.results131, ares, toT1, toT, borrow, borrow0, capCell, toTree0, tint, tbool]
   ·have hf : ¬ x ∈ l := fun hm => by
     obtain ⟨k, hk, e⟩ := List.mem_iff_getElem.1 hm
     have := h1 k hk (by omega); omega
    rw [decide_eq_false hf]
    refine zR (zc @Int.ofNat_lt (zc @iRows_len (zc @hil trivial))) trivial trivial ?_
    simp [Rets, aret, Blk.cells, ty, Tryz.results131, ares, toT1, toT, borrow, borrow0, capCell, toTree0, tint, tbool]
theorem lstGo_step {own pre t : List Int} {h : Int} (h1 : h ∈ own) (h2 : h ∉ pre) : lstGo own pre (h :: t) = lstGo own (pre ++ [h]) t := by
 simp only [lstGo]; rw [if_pos h1, if_neg h2]
theorem list_ok (l own : List Int) (hs : own.Pairwise (· < ·)) (hl : l.length < 2 ^ 40) (ho : own.length < 2 ^ 40) : ACall Tryz.prog 89 [tints l, tints own] (tint (lstErr l own)) := by
 refine ACall.of_body Tryz.func89 rfl (by kernel_rfl) ?_
 simp only [entry, Tryz.ntmps89, tints]
 refine zU ?_
 by_cases hlen : l.length = own.length
 case neg =>
  have hlI : ¬ ((l.length : Int) = own.length) := by omega
  have e : lstErr l own = 8 := by unfold lstErr; exact if_pos hlen
  rw [e]
  refine zR (zc @iRows_len (zc @hlI trivial)) trivial trivial ?_
  simp [Rets, aret, Blk.cells, ty, Tryz.results89, ares, toT1, toT, borrow, borrow0, capCell, toTree0, tint]
 have hlI : ((l.length : Int) = own.length) := by omega
 refine zR (zc @iRows_len (zc @hlI trivial)) trivial trivial ?_
 refine AWp.loopS (α:=Nat) 47 (fun i=>[(0,.c (.slice (iRows l) .none)),(1,.c (.slice (iRows own) .none)),(14,.c (.slice (iRows l) .none)),(15,.c (.int .i64 (own.length : Int))),(16,.c (.int .i64 (i : Int)))]) (fun i=>[]) (fun i=>i ≤ l.length ∧ lstGo own [] l = lstGo own (l.take i) (l.drop i)) (fun i=>l.length - i) (0) (hk:=Weak.headL 0 47 [0, 1, 14, 15, 16] zW) (h0:=?_) (round:=fun i hI=>?_)
 ·exact ⟨Nat.zero_le _, rfl⟩
 ·obtain ⟨hi, hI⟩ := hI
  by_cases hlt : i < l.length
  ·have hltI : (i : Int) < own.length := by omega
   have e0 := List.getElem?_eq_getElem hlt
   have e1 := iRows_get e0
   have hd := List.drop_eq_getElem_cons hlt
   have htk : l.take (i + 1) = l.take i ++ [l[i]] := List.take_succ_eq_append_getElem hlt
   generalize l[i] = x at *
   have hB := BinI_ok own x hs ho
   by_cases hm : x ∈ own
   case neg =>
    rw [decide_eq_false hm] at hB
    have hg : lstGo own [] l = 2 := by rw [hI, hd]; simp only [lstGo]; rw [if_neg hm]
    have e : lstErr l own = 2 := by unfold lstErr; rw [if_neg (by omega), hg]; rfl
    rw [e]
    refine zR (zc @hltI (zc @iRows_len (zc @e1 trivial))) (zc hB trivial) trivial ?_
    simp [Rets, aret, Blk.cells, ty, Tryz.results89, ares, toT1, toT, borrow, borrow0, capCell, toTree0, tint]
   rw [decide_eq_true hm] at hB
   have hC := Contains_ok (l.take i) x (by rw [List.length_take]; omega)
   by_cases hc : x ∈ l.take i
   ·have hg : lstGo own [] l = 7 := by rw [hI, hd]; simp only [lstGo]; rw [if_pos hm, if_pos hc]
    have e : lstErr l own = 7 := by unfold lstErr; rw [if_neg (by omega), hg]; rfl
    rw [e]
    rw [decide_eq_true hc] at hC
    refine zR (zc @hltI (zc @iRows_len (zc @e1 (zc @iRows_take (zc @Int.ofNat_lt (zc @hlt trivial)))))) (zc hB (zc hC trivial)) @iRows_k' ?_
    simp [Rets, aret, Blk.cells, ty, Tryz.results89, ares, toT1, toT, borrow, borrow0, capCell, toTree0, tint]
   ·rw [decide_eq_false hc] at hC
    refine zR (zc @hltI (zc @iRows_len (zc @e1 (zc @iRows_take (zc @Int.ofNat_lt (zc @hlt trivial)))))) (zc hB (zc hC trivial)) @iRows_k' ?_
    refine ⟨i + 1,Weak.headN 0 47 [0, 1, 14, 15, 16] zW,?_,?_⟩
    ·refine ⟨hlt, ?_⟩
     rw [hI, hd, lstGo_step hm hc, ← htk]
    ·omega
  ·have ei : i = l.length := by omega
   have hg : lstGo own [] l = 0 := by rw [hI, ei, List.drop_length]; rfl
   have hnl : ¬ ((i : Int) < own.length) := by omega
   by_cases hne : l = []
   ·have e : lstErr l own = 0 := by
     unfold lstErr; rw [if_neg (by omega), if_neg (by omega), if_neg (fun h => h.1 hne)]
    rw [e]
    subst hne
    refine zR (zc @hnl (zc @iRows_len trivial)) trivial trivial ?_
    simp [Rets, aret, Blk.cells, ty, Tryz.results89, ares, toT1, toT, borrow, borrow0, capCell, toTree0, tint]
   ·have hp : 0 < l.length := List.length_pos_iff.2 hne
    have hpo : 0 < own.length := by omega
    have hpI : (0 : Int) < own.length := by omega
    have e1 := List.getElem?_eq_getElem hp
    have e2 := List.getElem?_eq_getElem hpo
    have r1 := iRows_get e1
    have r2 := iRows_get e2
    have d1 : l.getD 0 0 = l[0] := by rw [List.getD_eq_getElem?_getD, e1]; rfl
    have d2 : own.getD 0 0 = own[0] := by rw [List.getD_eq_getElem?_getD, e2]; rfl
    have e : lstErr l own = if l[0] = own[0] then 0 else 9 := by
     unfold lstErr
     rw [if_neg (by omega), if_neg (by omega), d1, d2]
     by_cases h : l[0] = own[0]
     ·rw [if_pos h, if_neg (fun h2 => h2.2 h)]
     ·rw [if_neg h, if_pos ⟨hne, h⟩]
    rw [e]
    generalize l[0] = x at *
    generalize own[0] = y at *
    by_cases hxy : x = y
    ·rw [if_pos hxy]
     refine zR (zc @hnl (zc @iRows_len (zc @hlI (zc @hpI (zc @r1 (zc @r2 (zc @hxy (zc @Int.toNat_zero trivial)))))))) trivial trivial ?_
     simp [Rets, aret, Blk.cells, ty, Tryz.results89, ares, toT1, toT, borrow, borrow0, capCell, toTree0, tint]
    ·rw [if_neg hxy]
     refine zR (zc @hnl (zc @iRows_len (zc @hlI (zc @hpI (zc @r1 (zc @r2 (zc @hxy (zc @Int.toNat_zero trivial)))))))) trivial trivial ?_
     simp [Rets, aret, Blk.cells, ty, Tryz.results89, ares, toT1, toT, borrow, borrow0, capCell, toTree0, tint]
def leastGo (l : List Int) : Nat → Nat
 | 0 => 0
 | k + 1 => if l.getD (k + 1) 0 < l.getD (leastGo l k) 0 then k + 1 else leastGo l k
theorem leastGo_spec (l : List Int) : ∀ k : Nat, leastGo l k ≤ k ∧ (∀ i, i ≤ k → l.getD (leastGo l k) 0 ≤ l.getD i 0) ∧ ∀ i, i < leastGo l k → l.getD (leastGo l k) 0 < l.getD i 0
 | 0 => ⟨Nat.le_refl _, fun i hi => by rw [show i = 0 by omega]; exact Int.le_refl _, fun i hi => absurd hi (Nat.not_lt_zero _)⟩
 | k + 1 => by
  obtain ⟨h1, h2, h3⟩ := leastGo_spec l k
  simp only [leastGo]
  split
  ·rename_i h
   refine ⟨Nat.le_refl _, fun i hi => ?_, fun i hi => ?_⟩
   ·rcases Nat.lt_or_eq_of_le hi with h4 | h4
    ·have := h2 i (by omega); omega
    ·subst h4; exact Int.le_refl _
   ·have := h2 i (by omega); omega
  ·rename_i h
   refine ⟨by omega, fun i hi => ?_, h3⟩
   rcases Nat.lt_or_eq_of_le hi with h4 | h4
   ·exact h2 i (by omega)
   ·subst h4; omega
def leastN (l : List Int) : Nat := leastGo l (l.length - 1)
def turnL (l : List Int) : List Int := l.drop (leastN l) ++ l.take (leastN l)
theorem leastN_lt {l : List Int} (h : l ≠ []) : leastN l < l.length := by
 have := (leastGo_spec l (l.length - 1)).1
 have := List.length_pos_iff.2 h
 unfold leastN; omega
theorem turnL_len (l : List Int) : (turnL l).length = l.length := by
 unfold turnL
 rw [List.length_append, List.length_drop, List.length_take]
 by_cases h : l = []
 ·subst h; rfl
 ·have := leastN_lt h; omega
theorem turnL_nil : turnL [] = [] := rfl
def facesR (r : R) : List (List Nat) := if (endsL r.es).length = 0 then [[]] else facesN (fR (endsL r.es) r.ar) (2 * (endsL r.es).length) (2 * (endsL r.es).length)
def genusR (r : R) : Int := Int.tdiv (2 - r.n + (endsL r.es).length - (facesR r).length) 2
end Go.Proofs.YtfkegnhpihoncaaGreat
