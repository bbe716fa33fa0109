/- A part of the proof: contracts of functions of the program, or plain lemmas. -/
import Derived.Test.YtbdpkgckdkpepaaG44
import Derived.Test.YtbdpkgckdkpepaaG46
import Derived.Test.YtbdpkgckdkpepaaG39
set_option linter.all false
namespace Go.Proofs.Ytbdpkgckdkpepaa
open Go.Sp
set_option linter.unusedSimpArgs false
set_option linter.unusedVariables false
set_option maxHeartbeats 4000000
set_option maxRecDepth 100000



def hG (F : Nat → Nat → Int) (s : Nat → Nat) (i k x y : Nat) : Int := if x ≤ y then gI F i k (min (s x) (s y)) (max (s x) (s y)) else 0
theorem hG_step {n : Nat} {F : Nat → Nat → Int} {s : Nat → Nat} {i k x0 y0 : Nat} (hik : i ≤ k) (hxy : x0 ≤ y0) (h0 : min (s x0) (s y0) = i ∧ max (s x0) (s y0) = k)
    (hu : ∀ x y, x < n → y < n → x ≤ y → min (s x) (s y) = i → max (s x) (s y) = k → x = x0 ∧ y = y0) :
    tabF n (fun x y => if x = x0 ∧ y = y0 then F i k else hG F s i k x y) = tabF n (hG F s i (k + 1)) := by
  refine tabF_congr fun x y hx hy => ?_
  unfold hG
  by_cases h : x = x0 ∧ y = y0
  · obtain ⟨rfl, rfl⟩ := h
    rw [if_pos ⟨rfl, rfl⟩, if_pos hxy, h0.1, h0.2]
    unfold gI
    rw [if_pos ⟨hik, .inr ⟨rfl, by omega⟩⟩]
  · rw [if_neg h]
    by_cases h2 : x ≤ y
    · rw [if_pos h2, if_pos h2]
      have hne : ¬ (min (s x) (s y) = i ∧ max (s x) (s y) = k) := fun e => h (hu x y hx hy h2 e.1 e.2)
      unfold gI
      generalize min (s x) (s y) = a at *
      generalize max (s x) (s y) = b at *
      by_cases h3 : a ≤ b ∧ (a < i ∨ (a = i ∧ b < k))
      · rw [if_pos h3, if_pos (by omega)]
      · rw [if_neg h3, if_neg (by omega)]
    · rw [if_neg h2, if_neg h2]
theorem hG_row {n : Nat} {F : Nat → Nat → Int} {s : Nat → Nat} (hs : ∀ x, x < n → s x < n) (i : Nat) : tabF n (hG F s i n) = tabF n (hG F s (i + 1) (i + 1)) := by
  refine tabF_congr fun x y hx hy => ?_
  unfold hG
  by_cases h2 : x ≤ y
  · rw [if_pos h2, if_pos h2]
    have h4 := hs x hx
    have h5 := hs y hy
    have hb : max (s x) (s y) < n := by omega
    unfold gI
    generalize min (s x) (s y) = a at *
    generalize max (s x) (s y) = b at *
    by_cases h3 : a ≤ b ∧ (a < i ∨ (a = i ∧ b < n))
    · rw [if_pos h3, if_pos (by omega)]
    · rw [if_neg h3, if_neg (by omega)]
  · rw [if_neg h2, if_neg h2]
theorem nrm_cnt {F S : Int → Int} {n : Nat} (hF : ∀ v : Int, 0 ≤ v ∧ v < n → S (F v) = v) (hS : ∀ v : Int, 0 ≤ v ∧ v < n → F (S v) = v) {x y : Int} (hx : 0 ≤ x ∧ x < n) (hy : 0 ≤ y ∧ y < n) (hxy : x ≤ y) :
    ∀ es : List E, (∀ e, e ∈ es → 0 ≤ e.a ∧ e.a ≤ e.b ∧ e.b < n) → cntL (es.map (nrm F)) x y = cntL es (min (S x) (S y)) (max (S x) (S y))
  | [], _ => rfl
  | e :: es, hr => by
    have ih := nrm_cnt hF hS hx hy hxy es fun q hq => hr q (by simp [hq])
    have he := hr e (by simp)
    rw [List.map_cons]
    simp only [cntL, ih]
    have fa := hF e.a (by omega)
    have fb := hF e.b (by omega)
    have sx := hS x hx
    have sy := hS y hy
    have key : ((nrm F e).a = x ∧ (nrm F e).b = y) ↔ (e.a = min (S x) (S y) ∧ e.b = max (S x) (S y)) := by
      unfold nrm
      simp only
      constructor
      · rintro ⟨h1, h2⟩
        have hc : (F e.a = x ∧ F e.b = y) ∨ (F e.a = y ∧ F e.b = x) := by omega
        rcases hc with ⟨h3, h4⟩ | ⟨h3, h4⟩
        · rw [h3] at fa; rw [h4] at fb; omega
        · rw [h3] at fa; rw [h4] at fb; omega
      · rintro ⟨h1, h2⟩
        have hc : (e.a = S x ∧ e.b = S y) ∨ (e.a = S y ∧ e.b = S x) := by omega
        rcases hc with ⟨h3, h4⟩ | ⟨h3, h4⟩
        · rw [h3, h4, sx, sy]; omega
        · rw [h3, h4, sx, sy]; omega
    by_cases h : (nrm F e).a = x ∧ (nrm F e).b = y
    · rw [if_pos h, if_pos (key.1 h)]; rfl
    · rw [if_neg h, if_neg fun q => h (key.2 q)]
def cntN (es : List E) (a b : Nat) : Int := cntL es a b
theorem RelabelledR_ok (g : G) (n : Nat) (l : List Int) (hc : checkG g = 0) (hn : g.n = n) (hP : PermL n l) (hg : g.es.length < 2 ^ 30) : ACall Try.prog 49 [tG g, tints l] (tG (relG g l)) := by
  have hn12 := (checkG_zero.1 hc).1
  have hlen := hP.len
  obtain ⟨hrel, hR⟩ := ren_of hc hn hP
  obtain ⟨hPb, hS, hF⟩ := back_perm hP
  obtain ⟨S, hSdef⟩ : ∃ S : Int → Int, S = piF (backN l n n) := ⟨_, rfl⟩
  have hSr : ∀ w : Int, 0 ≤ w ∧ w < n → 0 ≤ S w ∧ S w < n := fun w hw => by rw [hSdef]; exact hPb.rng' hw
  rw [← hSdef] at hS hF
  obtain ⟨s, hs⟩ : ∃ s : Nat → Nat, s = fun (x : Nat) => (S (x : Int)).toNat := ⟨_, rfl⟩
  have hsS : ∀ x : Nat, x < n → ((s x : Nat) : Int) = S x ∧ s x < n := fun x hx => by
    have := hSr x (by omega); rw [hs]; constructor <;> simp only <;> omega
  have hpi : ∀ x : Nat, x < n → piF l (s x) = x := fun x hx => by rw [(hsS x hx).1]; exact hF x (by omega)
  have hsp : ∀ a : Nat, a < n → s (piF l a).toNat = a := fun a ha => by
    have h1 := hP.rng' (u := a) (by omega)
    have h2 := hS a (by omega)
    have h3 := hsS (piF l a).toNat (by omega)
    rw [show (((piF l a).toNat : Nat) : Int) = piF l a by omega, h2] at h3
    omega
  have hfin : (⟨n, joinE (cellT (tabF n (hG (cntN g.es) s n n))) n n⟩ : G) = relG g l := by
    have hok := (checkG_zero.1 hR.c').2
    have hnn := hR.nn'
    have e1 : joinE (cellT (tabF n (hG (cntN g.es) s n n))) n n = (relG g l).es := by
      refine join_eq hok.2 (fun e he => by have := hok.1 e he; unfold okE at this; omega) (fun i j hij hj => ?_)
      have h1 := hsS i (by omega)
      have h2 := hsS j hj
      rw [tabF_cell _ (by omega) hj, cntL_perm hR.perm (distinct_of hok.2)]
      rw [nrm_cnt (S := S) (n := n) hS hF (by omega) (by omega) (by omega) g.es (fun e he => by have := (checkG_zero.1 hc).2.1 e he; unfold okE at this; omega)]
      unfold hG gI cntN
      rw [if_pos hij, if_pos (by omega), ← h1.1, ← h2.1]
      congr 1 <;> omega
    rw [e1]
    generalize relG g l = r at *
    obtain ⟨rn, res⟩ := r
    simp only at hnn ⊢
    rw [hnn]
  rw [← hfin]
  clear hfin hR hrel hPb
  obtain ⟨gn, es⟩ := g
  simp only at hn hg hn12 ⊢
  subst hn
  have hT2 := Table2_ok n (by omega) n es
  rw [rep_tab n (hG (cntN es) s 0 0) (fun a b => by
    unfold hG gI
    split
    · exact if_neg (by omega)
    · rfl)] at hT2
  have hb : ∀ a b : Nat, a ≤ b → ACall Try.prog 43 [tG ⟨n, es⟩, tint a, tint b] (tint (cntN es a b)) := fun a b hab => by
    have := BetweenR_ok ⟨n, es⟩ a b (by simp only; omega)
    rwa [show min (a : Int) b = a by omega, show max (a : Int) b = b by omega] at this
  refine ACall.of_body Try.func49 rfl (by kernel_rfl) ?_
  simp only [entry, Try.ntmps49, ofT, ofT1, ofTree, List.map_cons, List.map_nil, List.length_cons, List.length_nil, Nat.reduceAdd, Nat.reduceSub, List.replicate_succ, List.replicate_zero, List.cons_append, List.nil_append, tG, tints]
  repeat' (first
    | (with_reducible refine AWp.seq_region (fun K hK => ?_))
    | (with_reducible refine AWp.last_region (fun K hK => ?_))
    | (with_reducible refine AWp.seq_draw (by with_unfolding_all kernel_rfl) (fun K hK => ?_))
    | (with_reducible refine AWp.last_draw (by with_unfolding_all kernel_rfl) (fun K hK => ?_))
    | ((with_reducible first | refine vcEnd ?_ | refine vcEndD ?_ | refine vcEndM ?_); refine hK _ _ ?_; clear hK; clear K)
    | ((with_reducible first | refine vcStepN (by rfl) (by with_unfolding_all rfl) ?_ | refine vcStepND (by rfl) (by with_unfolding_all rfl) ?_ | refine vcStepNM (by rfl) (by with_unfolding_all rfl) ?_); try simp only [aput, List.set_cons_succ, List.set_cons_zero, List.length_cons, List.length_nil, List.length_append, List.cons_append, List.nil_append, Nat.reduceAdd, List.append_nil])
    | ((with_reducible first | refine vcStep (by rfl) (fun K' hK' => ?_) | refine vcStepD (by rfl) (fun K' hK' => ?_) | refine vcStepM (by rfl) (fun K' hK' => ?_) | refine vcStepG (by rfl) (by with_unfolding_all rfl) (fun hguard K' hK' => ?_) (fun hguard => ?_) | refine vcStepGD (by rfl) (by with_unfolding_all rfl) (fun hguard K' hK' => ?_) (fun hguard => ?_) | refine vcStepGM (by rfl) (by with_unfolding_all rfl) (fun hguard K' hK' => ?_) (fun hguard => ?_)) <;> ((try (replace hguard := hguard; (try simp only [decide_eq_true_eq, decide_eq_false_iff_not, Bool.not_eq_true', Bool.not_eq_false', Bool.not_true, Bool.not_false, Int.not_lt, Int.not_le, reduceCtorEq, Bool.true_eq_false, Bool.false_eq_true] at hguard); (try (exfalso; (try clear hK'); (try clear hK); omega)))) <;> ((try (simp +contextual only [go_sem])); (repeat' (first | ((with_reducible refine hK' _ _ ?_); clear hK'; clear K') | ((with_reducible first | refine ⟨_, _, hT2, ?_⟩ | refine ⟨_, hT2, ?_⟩); (try simp +contextual only [go_sem])) | (with_reducible refine And.intro ?_ ?_) | ((with_reducible intro hpath); try first | (exfalso; (try clear hK'); (try clear hK); omega) | (exact absurd hpath (by assumption))) | ((with_reducible first | refine gi1 ?_ | refine gi2 ?_ | refine gn1 ?_ | refine gn2 ?_ | refine gi3 ?_ | refine gn3 ?_ | refine gnot ?_); omega) | (with_reducible exact True.intro) | ((refine hK' _ _ ?_); clear hK'; clear K'))); (try simp only [aput, List.set_cons_succ, List.set_cons_zero, List.length_cons, List.length_nil, List.length_append, List.cons_append, List.nil_append, Nat.reduceAdd, List.append_nil]))))
    | (with_reducible refine AWp.seq ?_)
    | (with_reducible refine AWp.block ?_)
    | (with_reducible refine AWp.skip ?_)
    | (with_reducible refine AWp.ret ?_)
    | (with_reducible refine AWp.exit ?_)
    | (refine AWp.cond _ rfl (fun hcond => ?_) (fun hcond => ?_) <;> first | (simp only [reduceCtorEq, Bool.true_eq_false, Bool.false_eq_true] at hcond; done) | (simp only [decide_eq_true_eq, decide_eq_false_iff_not, Bool.not_eq_true', Bool.not_eq_false', Int.not_lt, Int.not_le] at hcond; try (exfalso; omega)) | skip)
    | (with_reducible refine AThen.n ?_)
    | (with_reducible refine AThen.r ?_)
    | (with_reducible refine AThen.e ?_)
    | (with_reducible refine AInBlock.n ?_)
    | (with_reducible refine AInBlock.r ?_)
    | (with_reducible refine AInBlock.hit ?_)
    | (with_reducible refine AInBlock.miss (by with_unfolding_all decide) ?_))
  refine AWp.loopx (α := Nat) (fun i => (⟨.c .any :: .c (.slice (iRows l) .none) :: .c (.ptr 0 0) :: .c .any :: .c (.ptr 1 0) :: .c (.rows (refsT 3 n n) (.chain 2)) :: .c (.int .i64 (i : Int)) :: .c .any :: .c .any :: .c .any :: .c .any :: .c .any :: .c .any :: .c .any :: .c .any :: .c .any :: .c .any :: .c .any :: .c .any :: .c .any :: .c .any :: .c .any :: .c .any :: .c .any :: .c .any :: .c .any :: .c .any :: .c .any :: .c .any :: .c .any :: .c .any :: .c .any :: .c .any :: .c .any :: .c .any :: .c .any :: .c .any :: .c .any :: .c .any :: .c .any :: .c .any :: .c .any :: .c .any :: .c .any :: .c .any :: .c .any :: .c .any :: .c .any :: .c .any :: .c .any :: .c .any :: .c .any :: .c .any :: .c .any :: [], .box [.int .i64 (n : Int), .slice (eRows es) .none] :: .box [.int .i64 0, .nils] :: .chain n 1 :: (tabF n (hG (cntN es) s i i)).map rowB⟩ : St)) (fun i => i ≤ n) (fun i => n - i) (0) (Weak.head2 (m := n + 3) (by omega) ((fun t f => [f, t, t, f, t, t, t, f, f, f, f, f, f, f, f, f, f, f, f, f, f, f, f, f, f, f, f, f, f, f, f, f, f, f, f, f, f, f, f, f, f, f, f, f, f, f, f, f, f, f, f, f, f, f]) true false) (by first | rfl | (simp [mask]; done) | (simp [mask] <;> omega)) (by first | rfl | (simp; done) | (simp <;> omega)) (by (repeat' (first | exact valsIn_nil _ | exact blksIn_nil _ | exact cellsIn_nil _ | refine And.intro ?_ ?_ | refine valsIn_cons ?_ ?_ | refine blksIn_cons ?_ ?_ | refine cellsIn_cons ?_ ?_ | exact True.intro | exact refsT_in (by omega) | exact blksIn_rep | exact blksIn_tab | (show _ < _; omega) | exact cellsIn_map (fun _ => True.intro) | (intro c hc; cases hc; done) | (intro c hc; simp only [List.mem_cons, List.not_mem_nil, or_false] at hc; subst hc; exact True.intro))))) ?_ (fun i hI => ?_)
  · exact Nat.zero_le _
  · have hi : i ≤ n := hI
    clear hI
    by_cases hlt : i < n
    · have hltI : (i : Int) < n := by omega
      have e0 := piF_get (l := l) (v := i) (by omega)
      rw [Int.toNat_natCast] at e0
      have e1 := iRows_get e0
      have hri := hP.rng' (u := i) (by omega)
      repeat' (first
        | (with_reducible refine AWp.seq_region (fun K hK => ?_))
        | (with_reducible refine AWp.last_region (fun K hK => ?_))
        | (with_reducible refine AWp.seq_draw (by with_unfolding_all kernel_rfl) (fun K hK => ?_))
        | (with_reducible refine AWp.last_draw (by with_unfolding_all kernel_rfl) (fun K hK => ?_))
        | ((with_reducible first | refine vcEnd ?_ | refine vcEndD ?_ | refine vcEndM ?_); refine hK _ _ ?_; clear hK; clear K)
        | ((with_reducible first | refine vcStepN (by rfl) (by with_unfolding_all rfl) ?_ | refine vcStepND (by rfl) (by with_unfolding_all rfl) ?_ | refine vcStepNM (by rfl) (by with_unfolding_all rfl) ?_); try simp only [aput, List.set_cons_succ, List.set_cons_zero, List.length_cons, List.length_nil, List.length_append, List.cons_append, List.nil_append, Nat.reduceAdd, List.append_nil])
        | ((with_reducible first | refine vcStep (by rfl) (fun K' hK' => ?_) | refine vcStepD (by rfl) (fun K' hK' => ?_) | refine vcStepM (by rfl) (fun K' hK' => ?_) | refine vcStepG (by rfl) (by with_unfolding_all rfl) (fun hguard K' hK' => ?_) (fun hguard => ?_) | refine vcStepGD (by rfl) (by with_unfolding_all rfl) (fun hguard K' hK' => ?_) (fun hguard => ?_) | refine vcStepGM (by rfl) (by with_unfolding_all rfl) (fun hguard K' hK' => ?_) (fun hguard => ?_)) <;> ((try (replace hguard := hguard; (try simp only [decide_eq_true_eq, decide_eq_false_iff_not, Bool.not_eq_true', Bool.not_eq_false', Bool.not_true, Bool.not_false, Int.not_lt, Int.not_le, reduceCtorEq, Bool.true_eq_false, Bool.false_eq_true] at hguard); (try (exfalso; (try clear hK'); (try clear hK); omega)))) <;> ((try (simp +contextual only [go_sem, hltI])); (repeat' (first | ((with_reducible refine hK' _ _ ?_); clear hK'; clear K') | (with_reducible refine And.intro ?_ ?_) | ((with_reducible intro hpath); try first | (exfalso; (try clear hK'); (try clear hK); omega) | (exact absurd hpath (by assumption))) | ((with_reducible first | refine gi1 ?_ | refine gi2 ?_ | refine gn1 ?_ | refine gn2 ?_ | refine gi3 ?_ | refine gn3 ?_ | refine gnot ?_); omega) | (with_reducible exact True.intro) | ((refine hK' _ _ ?_); clear hK'; clear K'))); (try simp only [aput, List.set_cons_succ, List.set_cons_zero, List.length_cons, List.length_nil, List.length_append, List.cons_append, List.nil_append, Nat.reduceAdd, List.append_nil]))))
        | (with_reducible refine AWp.seq ?_)
        | (with_reducible refine AWp.block ?_)
        | (with_reducible refine AWp.skip ?_)
        | (with_reducible refine AWp.ret ?_)
        | (with_reducible refine AWp.exit ?_)
        | (refine AWp.cond _ rfl (fun hcond => ?_) (fun hcond => ?_) <;> first | (simp only [reduceCtorEq, Bool.true_eq_false, Bool.false_eq_true] at hcond; done) | (simp only [decide_eq_true_eq, decide_eq_false_iff_not, Bool.not_eq_true', Bool.not_eq_false', Int.not_lt, Int.not_le] at hcond; try (exfalso; omega)) | skip)
        | (with_reducible refine AThen.n ?_)
        | (with_reducible refine AThen.r ?_)
        | (with_reducible refine AThen.e ?_)
        | (with_reducible refine AInBlock.n ?_)
        | (with_reducible refine AInBlock.r ?_)
        | (with_reducible refine AInBlock.hit ?_)
        | (with_reducible refine AInBlock.miss (by with_unfolding_all decide) ?_))
      refine AWp.loopx (α := Nat) (fun k => (⟨.c .any :: .c (.slice (iRows l) .none) :: .c (.ptr 0 0) :: .c .any :: .c (.ptr 1 0) :: .c (.rows (refsT 3 n n) (.chain 2)) :: .c (.int .i64 (i : Int)) :: .c (.int .i64 (k : Int)) :: .c .any :: .c .any :: .c .any :: .c .any :: .c .any :: .c .any :: .c .any :: .c .any :: .c .any :: .c .any :: .c .any :: .c .any :: .c .any :: .c .any :: .c .any :: .c .any :: .c .any :: .c .any :: .c .any :: .c .any :: .c .any :: .c .any :: .c .any :: .c .any :: .c .any :: .c .any :: .c .any :: .c .any :: .c .any :: .c .any :: .c .any :: .c .any :: .c .any :: .c .any :: .c .any :: .c .any :: .c .any :: .c .any :: .c .any :: .c .any :: .c .any :: .c .any :: .c .any :: .c .any :: .c .any :: .c .any :: [], .box [.int .i64 (n : Int), .slice (eRows es) .none] :: .box [.int .i64 0, .nils] :: .chain n 1 :: (tabF n (hG (cntN es) s i k)).map rowB⟩ : St)) (fun k => i ≤ k ∧ k ≤ n) (fun k => n - k) (i) (Weak.head2 (m := n + 3) (by omega) ((fun t f => [f, t, t, f, t, t, t, t, f, f, f, f, f, f, f, f, f, f, f, f, f, f, f, f, f, f, f, f, f, f, f, f, f, f, f, f, f, f, f, f, f, f, f, f, f, f, f, f, f, f, f, f, f, f]) true false) (by first | rfl | (simp [mask]; done) | (simp [mask] <;> omega)) (by first | rfl | (simp; done) | (simp <;> omega)) (by (repeat' (first | exact valsIn_nil _ | exact blksIn_nil _ | exact cellsIn_nil _ | refine And.intro ?_ ?_ | refine valsIn_cons ?_ ?_ | refine blksIn_cons ?_ ?_ | refine cellsIn_cons ?_ ?_ | exact True.intro | exact refsT_in (by omega) | exact blksIn_rep | exact blksIn_tab | (show _ < _; omega) | exact cellsIn_map (fun _ => True.intro) | (intro c hc; cases hc; done) | (intro c hc; simp only [List.mem_cons, List.not_mem_nil, or_false] at hc; subst hc; exact True.intro))))) ?_ (fun k hI => ?_)
      · exact ⟨Nat.le_refl _, hi⟩
      · obtain ⟨hik, hk⟩ := hI
        by_cases hltk : k < n
        · have hltkI : (k : Int) < n := by omega
          have e0' := piF_get (l := l) (v := k) (by omega)
          rw [Int.toNat_natCast] at e0'
          have e1' := iRows_get e0'
          have hrk := hP.rng' (u := k) (by omega)
          have hbe := hb i k hik
          obtain ⟨x0, hx0⟩ : ∃ x : Nat, min (piF l i) (piF l k) = x := ⟨(min (piF l i) (piF l k)).toNat, by omega⟩
          obtain ⟨y0, hy0⟩ : ∃ y : Nat, max (piF l i) (piF l k) = y := ⟨(max (piF l i) (piF l k)).toNat, by omega⟩
          have hx0n : x0 < n := by omega
          have hy0n : y0 < n := by omega
          have hsi := hsp i hlt
          have hsk := hsp k hltk
          have hst := hG_step (n := n) (F := cntN es) (s := s) (x0 := x0) (y0 := y0) hik (by omega) (by
            have hcs : (x0 = (piF l i).toNat ∧ y0 = (piF l k).toNat) ∨ (x0 = (piF l k).toNat ∧ y0 = (piF l i).toNat) := by omega
            rcases hcs with ⟨c1, c2⟩ | ⟨c1, c2⟩
            · rw [c1, c2, hsi, hsk]; omega
            · rw [c1, c2, hsi, hsk]; omega) (fun x y hx hy hxy h1 h2 => by
            have p1 := hpi x hx
            have p2 := hpi y hy
            have hcs : (s x = i ∧ s y = k) ∨ (s x = k ∧ s y = i) := by omega
            rcases hcs with ⟨c1, c2⟩ | ⟨c1, c2⟩
            · rw [c1] at p1; rw [c2] at p2; omega
            · rw [c1] at p1; rw [c2] at p2; omega)
          have hr := refsT_get (base := 3) (n := n) hx0n
          have hrow := tabF_row (hG (cntN es) s i k) hx0n
          have hg1 := tab_get hrow
          have hset := tabF_set (hG (cntN es) s i k) hx0n hy0n (cntN es i k)
          rw [hst] at hset
          have hrl : ((List.range n).map fun b => hG (cntN es) s i k x0 b).length = n := by simp
          generalize ((List.range n).map fun b => hG (cntN es) s i k x0 b) = row at *
          generalize tabF n (hG (cntN es) s i k) = T at *
          generalize cntN es i k = x at *
          repeat' (first
            | (with_reducible refine AWp.seq_region (fun K hK => ?_))
            | (with_reducible refine AWp.last_region (fun K hK => ?_))
            | (with_reducible refine AWp.seq_draw (by with_unfolding_all kernel_rfl) (fun K hK => ?_))
            | (with_reducible refine AWp.last_draw (by with_unfolding_all kernel_rfl) (fun K hK => ?_))
            | ((with_reducible first | refine vcEnd ?_ | refine vcEndD ?_ | refine vcEndM ?_); refine hK _ _ ?_; clear hK; clear K)
            | ((with_reducible first | refine vcStepN (by rfl) (by with_unfolding_all rfl) ?_ | refine vcStepND (by rfl) (by with_unfolding_all rfl) ?_ | refine vcStepNM (by rfl) (by with_unfolding_all rfl) ?_); try simp only [aput, List.set_cons_succ, List.set_cons_zero, List.length_cons, List.length_nil, List.length_append, List.cons_append, List.nil_append, Nat.reduceAdd, List.append_nil])
            | ((with_reducible first | refine vcStep (by rfl) (fun K' hK' => ?_) | refine vcStepD (by rfl) (fun K' hK' => ?_) | refine vcStepM (by rfl) (fun K' hK' => ?_) | refine vcStepG (by rfl) (by with_unfolding_all rfl) (fun hguard K' hK' => ?_) (fun hguard => ?_) | refine vcStepGD (by rfl) (by with_unfolding_all rfl) (fun hguard K' hK' => ?_) (fun hguard => ?_) | refine vcStepGM (by rfl) (by with_unfolding_all rfl) (fun hguard K' hK' => ?_) (fun hguard => ?_)) <;> ((try (replace hguard := hguard; (try simp only [decide_eq_true_eq, decide_eq_false_iff_not, Bool.not_eq_true', Bool.not_eq_false', Bool.not_true, Bool.not_false, Int.not_lt, Int.not_le, reduceCtorEq, Bool.true_eq_false, Bool.false_eq_true] at hguard); (try (exfalso; (try clear hK'); (try clear hK); omega)))) <;> ((try (simp +contextual only [go_sem, hltkI, e1, e1', hx0, hy0, hr, hg1, Int.toNat_natCast, Nat.mul_one, iC_len, hrl, iC_set, tab_set, hset])); (repeat' (first | ((with_reducible refine hK' _ _ ?_); clear hK'; clear K') | ((with_reducible first | refine ⟨_, _, ACall.h (hbe) (by with_unfolding_all rfl), ?_⟩ | refine ⟨_, ACall.h (hbe) (by with_unfolding_all rfl), ?_⟩ | refine ⟨_, _, ACall.hb (hbe) (by with_unfolding_all rfl) (by with_unfolding_all rfl), ?_⟩ | refine ⟨_, ACall.hb (hbe) (by with_unfolding_all rfl) (by with_unfolding_all rfl), ?_⟩); (try simp +contextual only [go_sem, hltkI, e1, e1', hx0, hy0, hr, hg1, Int.toNat_natCast, Nat.mul_one, iC_len, hrl, iC_set, tab_set, hset])) | (with_reducible refine And.intro ?_ ?_) | ((with_reducible intro hpath); try first | (exfalso; (try clear hK'); (try clear hK); omega) | (exact absurd hpath (by assumption))) | ((with_reducible first | refine gi1 ?_ | refine gi2 ?_ | refine gn1 ?_ | refine gn2 ?_ | refine gi3 ?_ | refine gn3 ?_ | refine gnot ?_); omega) | (with_reducible exact True.intro) | ((refine hK' _ _ ?_); clear hK'; clear K'))); (try simp only [aput, List.set_cons_succ, List.set_cons_zero, List.length_cons, List.length_nil, List.length_append, List.cons_append, List.nil_append, Nat.reduceAdd, List.append_nil]))))
            | (with_reducible refine AWp.seq ?_)
            | (with_reducible refine AWp.block ?_)
            | (with_reducible refine AWp.skip ?_)
            | (with_reducible refine AWp.ret ?_)
            | (with_reducible refine AWp.exit ?_)
            | (refine AWp.cond _ rfl (fun hcond => ?_) (fun hcond => ?_) <;> first | (simp only [reduceCtorEq, Bool.true_eq_false, Bool.false_eq_true] at hcond; done) | (simp only [decide_eq_true_eq, decide_eq_false_iff_not, Bool.not_eq_true', Bool.not_eq_false', Int.not_lt, Int.not_le] at hcond; try (exfalso; omega)) | skip)
            | (with_reducible refine AThen.n ?_)
            | (with_reducible refine AThen.r ?_)
            | (with_reducible refine AThen.e ?_)
            | (with_reducible refine AInBlock.n ?_)
            | (with_reducible refine AInBlock.r ?_)
            | (with_reducible refine AInBlock.hit ?_)
            | (with_reducible refine AInBlock.miss (by with_unfolding_all decide) ?_))
          refine ⟨k + 1, Weak.head2 (m := n + 3) (by omega) ((fun t f => [f, t, t, f, t, t, t, t, f, f, f, f, f, f, f, f, f, f, f, f, f, f, f, f, f, f, f, f, f, f, f, f, f, f, f, f, f, f, f, f, f, f, f, f, f, f, f, f, f, f, f, f, f, f]) true false) (by first | rfl | (simp [mask]; done) | (simp [mask] <;> simp_all <;> omega)) (by first | rfl | (simp [mask]; done) | (simp [mask] <;> simp_all <;> omega)) (by (repeat' (first | exact valsIn_nil _ | exact blksIn_nil _ | exact cellsIn_nil _ | refine And.intro ?_ ?_ | refine valsIn_cons ?_ ?_ | refine blksIn_cons ?_ ?_ | refine cellsIn_cons ?_ ?_ | exact True.intro | exact refsT_in (by omega) | exact blksIn_rep | exact blksIn_tab | (show _ < _; omega) | exact cellsIn_map (fun _ => True.intro) | (intro c hc; cases hc; done) | (intro c hc; simp only [List.mem_cons, List.not_mem_nil, or_false] at hc; subst hc; exact True.intro)))), ?_, ?_⟩
          · exact ⟨by omega, hltk⟩
          · omega
        · have ek : k = n := by omega
          have hnl : ¬ ((k : Int) < n) := by omega
          rw [ek]
          rw [ek] at hnl
          have hrow := hG_row (n := n) (F := cntN es) (s := s) (fun x hx => (hsS x hx).2) i
          rw [hrow]
          repeat' (first
            | (with_reducible refine AWp.seq_region (fun K hK => ?_))
            | (with_reducible refine AWp.last_region (fun K hK => ?_))
            | (with_reducible refine AWp.seq_draw (by with_unfolding_all kernel_rfl) (fun K hK => ?_))
            | (with_reducible refine AWp.last_draw (by with_unfolding_all kernel_rfl) (fun K hK => ?_))
            | ((with_reducible first | refine vcEnd ?_ | refine vcEndD ?_ | refine vcEndM ?_); refine hK _ _ ?_; clear hK; clear K)
            | ((with_reducible first | refine vcStepN (by rfl) (by with_unfolding_all rfl) ?_ | refine vcStepND (by rfl) (by with_unfolding_all rfl) ?_ | refine vcStepNM (by rfl) (by with_unfolding_all rfl) ?_); try simp only [aput, List.set_cons_succ, List.set_cons_zero, List.length_cons, List.length_nil, List.length_append, List.cons_append, List.nil_append, Nat.reduceAdd, List.append_nil])
            | ((with_reducible first | refine vcStep (by rfl) (fun K' hK' => ?_) | refine vcStepD (by rfl) (fun K' hK' => ?_) | refine vcStepM (by rfl) (fun K' hK' => ?_) | refine vcStepG (by rfl) (by with_unfolding_all rfl) (fun hguard K' hK' => ?_) (fun hguard => ?_) | refine vcStepGD (by rfl) (by with_unfolding_all rfl) (fun hguard K' hK' => ?_) (fun hguard => ?_) | refine vcStepGM (by rfl) (by with_unfolding_all rfl) (fun hguard K' hK' => ?_) (fun hguard => ?_)) <;> ((try (replace hguard := hguard; (try simp only [decide_eq_true_eq, decide_eq_false_iff_not, Bool.not_eq_true', Bool.not_eq_false', Bool.not_true, Bool.not_false, Int.not_lt, Int.not_le, reduceCtorEq, Bool.true_eq_false, Bool.false_eq_true] at hguard); (try (exfalso; (try clear hK'); (try clear hK); omega)))) <;> ((try (simp +contextual only [go_sem, hnl])); (repeat' (first | ((with_reducible refine hK' _ _ ?_); clear hK'; clear K') | (with_reducible refine And.intro ?_ ?_) | ((with_reducible intro hpath); try first | (exfalso; (try clear hK'); (try clear hK); omega) | (exact absurd hpath (by assumption))) | ((with_reducible first | refine gi1 ?_ | refine gi2 ?_ | refine gn1 ?_ | refine gn2 ?_ | refine gi3 ?_ | refine gn3 ?_ | refine gnot ?_); omega) | (with_reducible exact True.intro) | ((refine hK' _ _ ?_); clear hK'; clear K'))); (try simp only [aput, List.set_cons_succ, List.set_cons_zero, List.length_cons, List.length_nil, List.length_append, List.cons_append, List.nil_append, Nat.reduceAdd, List.append_nil]))))
            | (with_reducible refine AWp.seq ?_)
            | (with_reducible refine AWp.block ?_)
            | (with_reducible refine AWp.skip ?_)
            | (with_reducible refine AWp.ret ?_)
            | (with_reducible refine AWp.exit ?_)
            | (refine AWp.cond _ rfl (fun hcond => ?_) (fun hcond => ?_) <;> first | (simp only [reduceCtorEq, Bool.true_eq_false, Bool.false_eq_true] at hcond; done) | (simp only [decide_eq_true_eq, decide_eq_false_iff_not, Bool.not_eq_true', Bool.not_eq_false', Int.not_lt, Int.not_le] at hcond; try (exfalso; omega)) | skip)
            | (with_reducible refine AThen.n ?_)
            | (with_reducible refine AThen.r ?_)
            | (with_reducible refine AThen.e ?_)
            | (with_reducible refine AInBlock.n ?_)
            | (with_reducible refine AInBlock.r ?_)
            | (with_reducible refine AInBlock.hit ?_)
            | (with_reducible refine AInBlock.miss (by with_unfolding_all decide) ?_))
          refine ⟨i + 1, Weak.head2 (m := n + 3) (by omega) ((fun t f => [f, t, t, f, t, t, t, f, f, f, f, f, f, f, f, f, f, f, f, f, f, f, f, f, f, f, f, f, f, f, f, f, f, f, f, f, f, f, f, f, f, f, f, f, f, f, f, f, f, f, f, f, f, f]) true false) (by first | rfl | (simp [mask]; done) | (simp [mask] <;> simp_all <;> omega)) (by first | rfl | (simp [mask]; done) | (simp [mask] <;> simp_all <;> omega)) (by (repeat' (first | exact valsIn_nil _ | exact blksIn_nil _ | exact cellsIn_nil _ | refine And.intro ?_ ?_ | refine valsIn_cons ?_ ?_ | refine blksIn_cons ?_ ?_ | refine cellsIn_cons ?_ ?_ | exact True.intro | exact refsT_in (by omega) | exact blksIn_rep | exact blksIn_tab | (show _ < _; omega) | exact cellsIn_map (fun _ => True.intro) | (intro c hc; cases hc; done) | (intro c hc; simp only [List.mem_cons, List.not_mem_nil, or_false] at hc; subst hc; exact True.intro)))), ?_, ?_⟩
          · exact hlt
          · omega
    · have ei : i = n := by omega
      have hnl : ¬ ((i : Int) < n) := by omega
      rw [ei]
      rw [ei] at hnl
      have hJ := Joined_ok n (tabF n (hG (cntN es) s n n)) (by omega) (tabF_sq _ _)
      refine table_data [.box [.int .i64 (n : Int), .slice (eRows es) .none], .box [.int .i64 0, .nils], .chain n 1] 5 (.chain 2) n (tabF n (hG (cntN es) s n n)) (tabF_sq _ _) rfl ?_
      simp only [List.set_cons_succ, List.set_cons_zero, List.cons_append, List.nil_append]
      repeat' (first
        | (with_reducible refine AWp.seq_region (fun K hK => ?_))
        | (with_reducible refine AWp.last_region (fun K hK => ?_))
        | (with_reducible refine AWp.seq_draw (by with_unfolding_all kernel_rfl) (fun K hK => ?_))
        | (with_reducible refine AWp.last_draw (by with_unfolding_all kernel_rfl) (fun K hK => ?_))
        | ((with_reducible first | refine vcEnd ?_ | refine vcEndD ?_ | refine vcEndM ?_); refine hK _ _ ?_; clear hK; clear K)
        | ((with_reducible first | refine vcStepN (by rfl) (by with_unfolding_all rfl) ?_ | refine vcStepND (by rfl) (by with_unfolding_all rfl) ?_ | refine vcStepNM (by rfl) (by with_unfolding_all rfl) ?_); try simp only [aput, List.set_cons_succ, List.set_cons_zero, List.length_cons, List.length_nil, List.length_append, List.cons_append, List.nil_append, Nat.reduceAdd, List.append_nil])
        | ((with_reducible first | refine vcStep (by rfl) (fun K' hK' => ?_) | refine vcStepD (by rfl) (fun K' hK' => ?_) | refine vcStepM (by rfl) (fun K' hK' => ?_) | refine vcStepG (by rfl) (by with_unfolding_all rfl) (fun hguard K' hK' => ?_) (fun hguard => ?_) | refine vcStepGD (by rfl) (by with_unfolding_all rfl) (fun hguard K' hK' => ?_) (fun hguard => ?_) | refine vcStepGM (by rfl) (by with_unfolding_all rfl) (fun hguard K' hK' => ?_) (fun hguard => ?_)) <;> ((try (replace hguard := hguard; (try simp only [decide_eq_true_eq, decide_eq_false_iff_not, Bool.not_eq_true', Bool.not_eq_false', Bool.not_true, Bool.not_false, Int.not_lt, Int.not_le, reduceCtorEq, Bool.true_eq_false, Bool.false_eq_true] at hguard); (try (exfalso; (try clear hK'); (try clear hK); omega)))) <;> ((try (simp +contextual only [go_sem, hnl])); (repeat' (first | ((with_reducible refine hK' _ _ ?_); clear hK'; clear K') | ((with_reducible first | refine ⟨_, _, ACall.h (hJ) (by with_unfolding_all rfl), ?_⟩ | refine ⟨_, ACall.h (hJ) (by with_unfolding_all rfl), ?_⟩ | refine ⟨_, _, ACall.hb (hJ) (by with_unfolding_all rfl) (by with_unfolding_all rfl), ?_⟩ | refine ⟨_, ACall.hb (hJ) (by with_unfolding_all rfl) (by with_unfolding_all rfl), ?_⟩); (try simp +contextual only [go_sem, hnl])) | (with_reducible refine And.intro ?_ ?_) | ((with_reducible intro hpath); try first | (exfalso; (try clear hK'); (try clear hK); omega) | (exact absurd hpath (by assumption))) | ((with_reducible first | refine gi1 ?_ | refine gi2 ?_ | refine gn1 ?_ | refine gn2 ?_ | refine gi3 ?_ | refine gn3 ?_ | refine gnot ?_); omega) | (with_reducible exact True.intro) | ((refine hK' _ _ ?_); clear hK'; clear K'))); (try simp only [aput, List.set_cons_succ, List.set_cons_zero, List.length_cons, List.length_nil, List.length_append, List.cons_append, List.nil_append, Nat.reduceAdd, List.append_nil]))))
        | (with_reducible refine AWp.seq ?_)
        | (with_reducible refine AWp.block ?_)
        | (with_reducible refine AWp.skip ?_)
        | (with_reducible refine AWp.ret ?_)
        | (with_reducible refine AWp.exit ?_)
        | (refine AWp.cond _ rfl (fun hcond => ?_) (fun hcond => ?_) <;> first | (simp only [reduceCtorEq, Bool.true_eq_false, Bool.false_eq_true] at hcond; done) | (simp only [decide_eq_true_eq, decide_eq_false_iff_not, Bool.not_eq_true', Bool.not_eq_false', Int.not_lt, Int.not_le] at hcond; try (exfalso; omega)) | skip)
        | (with_reducible refine AThen.n ?_)
        | (with_reducible refine AThen.r ?_)
        | (with_reducible refine AThen.e ?_)
        | (with_reducible refine AInBlock.n ?_)
        | (with_reducible refine AInBlock.r ?_)
        | (with_reducible refine AInBlock.hit ?_)
        | (with_reducible refine AInBlock.miss (by with_unfolding_all decide) ?_))
      simp [Rets, aret, Blk.cells, ty, Try.results49, ares, toT1, toT, borrow, borrow0, capCell, toTree0, tG]
end Go.Proofs.Ytbdpkgckdkpepaa
