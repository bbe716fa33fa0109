/- A part of the proof. -/
import Derived.Test.YtgklecfiflhjmaaPart27
import Derived.Test.YtgklecfiflhjmaaPart19
import Derived.Test.YtgklecfiflhjmaaPart28
import Derived.Test.YtgklecfiflhjmaaPart26
import Derived.Test.YtgklecfiflhjmaaLayerC
import Derived.Test.YtgklecfiflhjmaaPart11
import Derived.Test.YtgklecfiflhjmaaPart24
set_option linter.all false
set_option maxHeartbeats 4000000
set_option maxRecDepth 100000
namespace Go.Proofs.Ytgklecfiflhjmaa
open Go.Sp
theorem two_of {α : Type} {l : List α} (hd : l.Nodup) : 1 < l.length ↔ ∃ a b, a ∈ l ∧ b ∈ l ∧ a ≠ b := by
 match l, hd with
 | [], _ => exact ⟨fun h => by simp at h, fun ⟨a, _, h, _⟩ => by cases h⟩
 | [x], _ => exact ⟨fun h => by simp at h, fun ⟨a, b, h1, h2, h3⟩ => absurd ((List.mem_singleton.1 h1).trans (List.mem_singleton.1 h2).symm) h3⟩
 | x :: y :: l, hd =>
  refine ⟨fun _ => ⟨x, y, by simp, by simp, ?_⟩, fun _ => by simp⟩
  intro q
  exact (List.nodup_cons.1 hd).1 (by rw [q]; simp)
section
variable {L : List (Nat × Nat)} {n v : Nat}
theorem tB_iff {B : List Nat} : tB L v B = true ↔ ∃ e, e ∈ B ∧ (edL L e).1 ≠ (edL L e).2 ∧ tch L e v := by
 unfold tB
 rw [List.any_eq_true]
 constructor
 ·rintro ⟨e, h1, h2⟩
  rw [Bool.and_eq_true, decide_eq_true_eq, Bool.or_eq_true, decide_eq_true_eq, decide_eq_true_eq] at h2
  exact ⟨e, h1, h2⟩
 ·rintro ⟨e, h1, h2⟩
  refine ⟨e, h1, ?_⟩
  rw [Bool.and_eq_true, decide_eq_true_eq, Bool.or_eq_true, decide_eq_true_eq, decide_eq_true_eq]
  exact h2
theorem art_two (hn : n ≤ 12) (hL : ∀ p, p ∈ L → p.1 < n ∧ p.2 < n) : 1 < (blocksB L n).countP (tB L v) ↔ ∃ e f, NL L e ∧ NL L f ∧ tch L e v ∧ tch L f v ∧ ¬ Rel L e f := by
 obtain ⟨nb, h1, h2⟩ := blkF hn hL
 have hp : (blocksB L n).countP (tB L v) = (nb.filter (tB L v)).length := by
  unfold blocksB
  rw [(isortL_perm _).countP_eq, h1, List.countP_append, List.countP_eq_length_filter, List.countP_eq_length_filter]
  have h0 : (loopsB L).filter (tB L v) = [] := List.filter_eq_nil_iff.2 fun B hB => by
   obtain ⟨y, rfl, _, q2⟩ := loopsB_mem.1 hB
   intro q
   obtain ⟨e, e1, e2, _⟩ := tB_iff.1 q
   rw [List.mem_singleton.1 e1] at e2
   exact e2 q2
  rw [h0]; simp
 have hnd : (nb.filter (tB L v)).Nodup := by
  refine List.Pairwise.filter _ ?_
  refine ((List.pairwise_flatten.1 h2.nd).2).imp_of_mem fun {a b} ha hb hd q => ?_
  subst q
  obtain ⟨x, hx⟩ := List.exists_mem_of_ne_nil _ (h2.ne a ha)
  exact hd x hx x hx rfl
 rw [hp, two_of hnd]
 constructor
 ·rintro ⟨a, b, ha, hb, hab⟩
  obtain ⟨ha1, ha2⟩ := List.mem_filter.1 ha
  obtain ⟨hb1, hb2⟩ := List.mem_filter.1 hb
  obtain ⟨e, e1, _, e3⟩ := tB_iff.1 ha2
  obtain ⟨f, f1, _, f3⟩ := tB_iff.1 hb2
  refine ⟨e, f, (h2.mem e).1 (List.mem_flatten.2 ⟨a, ha1, e1⟩), (h2.mem f).1 (List.mem_flatten.2 ⟨b, hb1, f1⟩), e3, f3, fun hr => hab ?_⟩
  exact flat_inj h2.nd ha1 hb1 ((h2.cls ha1 e1 f).2 hr) f1
 ·rintro ⟨e, f, he, hf, hev, hfv, hr⟩
  obtain ⟨a, ha, e1⟩ := List.mem_flatten.1 ((h2.mem e).2 he)
  obtain ⟨b, hb, f1⟩ := List.mem_flatten.1 ((h2.mem f).2 hf)
  refine ⟨a, b, List.mem_filter.2 ⟨ha, tB_iff.2 ⟨e, e1, he.2, hev⟩⟩, List.mem_filter.2 ⟨hb, tB_iff.2 ⟨f, f1, hf.2, hfv⟩⟩, fun q => hr ?_⟩
  subst q
  exact h2.rel a ha e e1 f f1
end
set_option maxHeartbeats 1000000
theorem degL_mm (v : Int) : ∀ M : List (Int × Int), degL v (M.map fun p => (min p.1 p.2, max p.1 p.2)) = degL v M
 | [] => rfl
 | p :: M => by
  have ih := degL_mm v M
  rw [List.map_cons]
  simp only [degL, b2i]
  rw [ih]
  rcases Int.le_total p.1 p.2 with h | h
  ·rw [Int.min_eq_left h, Int.max_eq_right h]
  ·rw [Int.min_eq_right h, Int.max_eq_left h]; omega
theorem count_mm (a b : Int) : ∀ M : List (Int × Int), (M.map fun p => (min p.1 p.2, max p.1 p.2)).count (a, b) = M.countP (isP a b)
 | [] => rfl
 | p :: M => by
  rw [List.map_cons, List.count_cons, List.countP_cons, count_mm a b M]
  congr 1
  by_cases h : min p.1 p.2 = a ∧ max p.1 p.2 = b
  ·rw [if_pos (by rw [h.1, h.2]; simp), if_pos (by unfold isP; exact decide_eq_true h)]
  ·rw [if_neg (fun q => h (by simpa using q)), if_neg (by unfold isP; simpa using h)]
theorem bag_deg {n : Int} {M : List (Int × Int)} (hM : ∀ p, p ∈ M → okP n p) (v : Int) : degL v (endsL (sortE (bagL M))) = degL v M := by
 have hb := bag_ok hM M.length (Nat.le_refl _)
 rw [List.take_length] at hb
 rw [← degL_mm v M]
 refine degL_perm (List.perm_iff_count.2 fun p => ?_)
 obtain ⟨a, b⟩ := p
 rw [count_mm]
 have h1 := cntL_bag M a b M.length (Nat.le_refl _)
 rw [List.take_length, cntL_perm (sortE_perm (bagL M)).symm hb.d] at h1
 have hr : ∀ e, e ∈ sortE (bagL M) → e.a ≤ e.b ∧ 1 ≤ e.m := fun e he => by
  have he' := (sortE_perm (bagL M)).mem_iff.1 he
  have h1 := hb.m e he'
  have h2 := hb.r e he'
  omega
 have h2 := cnt_ends (sortE_sorted hb.d) hr a b
 have h3 : (endsL (sortE (bagL M))).count (a, b) = (endsL (sortE (bagL M))).countP (isP a b) := by
  unfold List.count
  refine List.countP_congr fun p hp => ?_
  obtain ⟨e, he, rfl⟩ := endsL_mem hp
  have := hr e he
  unfold isP
  simp only [beq_iff_eq, decide_eq_true_eq, Prod.mk.injEq]
  rw [Int.min_eq_left this.1, Int.max_eq_right this.1]
 rw [h3]; omega
theorem degR_deg {g : G} {n : Nat} (hc : checkG g = 0) (hn : g.n = n) {v : Nat} (hv : v < n) : degR g.es n v = degL (v : Int) (endsL g.es) := by
 have h := checkG_zero.1 hc
 unfold degR
 rw [valR_val hc hn (by omega), degL_val (distinct_of h.2.2) (fun x hx => by have := h.2.1 x hx; unfold okE at this; omega)]
theorem pk_pt (L : List (Nat × Nat)) {l : List Nat} (hl : ∀ f, f ∈ l → f < L.length) : pkL (LI L) (zI l) = ptE L l := by
 unfold pkL ptE zI
 rw [List.map_map]
 refine List.map_congr_left fun f hf => ?_
 have := hl f hf
 simp only [Function.comp_apply, Int.toNat_natCast]
 unfold LI edL
 rw [List.getD_eq_getElem?_getD, List.getElem?_map, List.getElem?_eq_getElem this, List.getD_eq_getElem?_getD, List.getElem?_eq_getElem this]; rfl
def bitA (m w : Nat) : Nat → Bool := fun e => decide (e < m) && decide (bitN w e = 1)
theorem bitA_set (m w : Nat) : selA (bitA m w) m = setN m w := by
 unfold selA setN
 refine List.filter_congr fun e he => ?_
 unfold bitA
 rw [decide_eq_true (List.mem_range.1 he), Bool.true_and]
theorem cycB_iff {g : G} {n : Nat} {L : List (Nat × Nat)} (hc : checkG g = 0) (h : NG g n L) (hm : L.length ≤ 40) (w : Nat) :
  cycB (withG g (zI (setN L.length w))).es n (setN L.length w).length = true ↔ Circ L (bitA L.length w) := by
 have hEl : (endsL g.es).length = L.length := by rw [h.ends]; simp [LI]
 have hmem : ∀ f, f ∈ setN L.length w → f < L.length := fun f hf => by
  unfold setN at hf; exact List.mem_range.1 (List.mem_filter.1 hf).1
 have ht : ∀ x, x ∈ zI (setN L.length w) → 0 ≤ x ∧ x < (endsL g.es).length := fun x hx => by
  obtain ⟨f, hf, rfl⟩ := List.mem_map.1 hx
  have := hmem f hf
  omega
 have hlen := setN_len L.length w
 have hwc := with_check hc ht (by rw [zI_len]; omega)
 have hp := parts_ncls hwc.1 (n := n) h.hn
 have hp2 : ncls n (Conn (endsL (withG g (zI (setN L.length w))).es)) = ncls n (Conn (ptE L (setN L.length w))) := ncls_congr fun x y _ _ => by
  rw [with_conn hc ht, h.ends, pk_pt L hmem]
 rw [hp2] at hp
 have hd : ∀ v : Nat, v < n → degR (withG g (zI (setN L.length w))).es n v = degL (v : Int) (ptE L (setN L.length w)) := fun v hv => by
  have h1 := degR_deg hwc.1 (n := n) h.hn hv
  rw [h1]
  have h2 := bag_deg (pick_ok hc ht) (v : Int)
  rw [h.ends, pk_pt L hmem] at h2
  rw [← h2]
  unfold withG
  rw [h.ends, pk_pt L hmem]
 have htc : tchN (withG g (zI (setN L.length w))).es n n = (List.range n).countP fun v : Nat => decide (degL (v : Int) (ptE L (setN L.length w)) = 2) := by
  unfold tchN
  refine List.countP_congr fun v hv => ?_
  rw [hd v (List.mem_range.1 hv)]
 have hall : (List.range n).all (fun v => decide (degR (withG g (zI (setN L.length w))).es n v = 0 ∨ degR (withG g (zI (setN L.length w))).es n v = 2)) = true ↔ ∀ v : Nat, v < n → degL (v : Int) (ptE L (setN L.length w)) = 0 ∨ degL (v : Int) (ptE L (setN L.length w)) = 2 := by
  rw [List.all_eq_true]
  constructor
  ·intro q v hv
   have := q v (List.mem_range.2 hv)
   rw [decide_eq_true_eq, hd v hv] at this
   exact this
  ·intro q v hv
   have hv := List.mem_range.1 hv
   rw [decide_eq_true_eq, hd v hv]
   exact q v hv
 have key : cycB (withG g (zI (setN L.length w))).es n (setN L.length w).length = true ↔ CycR L n (bitA L.length w) := by
  unfold cycB CycR
  rw [bitA_set, Bool.and_eq_true, Bool.and_eq_true, hall, hp, htc, decide_eq_true_eq, decide_eq_true_eq]
  have hle : (List.range n).countP (fun v : Nat => decide (degL (v : Int) (ptE L (setN L.length w)) = 2)) ≤ n := Nat.le_trans List.countP_le_length (by simp)
  constructor
  ·rintro ⟨⟨q1, q2⟩, q3⟩; exact ⟨q1, q2, by omega⟩
  ·rintro ⟨q1, q2, q3⟩; exact ⟨⟨q1, q2⟩, by omega⟩
 rw [key]
 have hs : SupA L (bitA L.length w) := fun e he => by
  unfold bitA at he; rw [Bool.and_eq_true, decide_eq_true_eq] at he; exact he.1
 exact ⟨fun q => q.circ hs h.lt, fun q => q.cyc h.lt⟩
theorem bits_of (A : Nat → Bool) : ∀ m, ∃ w, w < 2 ^ m ∧ ∀ e, e < m → (bitN w e = 1 ↔ A e = true)
 | 0 => ⟨0, by decide, fun e he => by omega⟩
 | m + 1 => by
  obtain ⟨w, hw, h⟩ := bits_of A m
  refine ⟨w + if A m = true then 2 ^ m else 0, ?_, fun e he => ?_⟩
  ·rw [Nat.pow_succ]; split <;> omega
  ·by_cases q : e = m
   ·subst q
    unfold bitN
    cases hA : A e with
    | true => rw [if_pos rfl, Nat.add_div_right _ (Nat.two_pow_pos e), Nat.div_eq_of_lt hw]; simp
    | false => rw [if_neg (by simp), Nat.add_zero, Nat.div_eq_of_lt hw]; simp
   ·rw [← h e (by omega)]
    unfold bitN
    cases hA : A m with
    | false => rw [if_neg (by simp), Nat.add_zero]
    | true =>
     rw [if_pos rfl]
     have h1 : 2 ^ m = 2 ^ e * (2 * 2 ^ (m - e - 1)) := by
      rw [← Nat.mul_assoc, ← Nat.pow_succ, ← Nat.pow_add]; congr 1; omega
     rw [h1, Nat.add_mul_div_left _ _ (Nat.two_pow_pos e)]
     omega
noncomputable def cycP (L : List (Nat × Nat)) (g : G) (n w : Nat) : Bool := cycB (withG g (zI (setN L.length w))).es n (setN L.length w).length
theorem common_iff {g : G} {n : Nat} {L : List (Nat × Nat)} (hc : checkG g = 0) (h : NG g n L) (hm : L.length ≤ 40) {e f : Nat} (he : e < L.length) (hf : f < L.length) :
  (∃ w, 1 ≤ w ∧ w < 2 ^ L.length ∧ cycP L g n w = true ∧ bitN w e = 1 ∧ bitN w f = 1) ↔ ∃ C, Circ L C ∧ C e = true ∧ C f = true := by
 constructor
 ·rintro ⟨w, w0, w1, w2, w3, w4⟩
  refine ⟨_, (cycB_iff hc h hm w).1 w2, ?_, ?_⟩
  ·unfold bitA; rw [decide_eq_true he, decide_eq_true w3]; rfl
  ·unfold bitA; rw [decide_eq_true hf, decide_eq_true w4]; rfl
 ·rintro ⟨C, c1, c2, c3⟩
  obtain ⟨w, w1, w2⟩ := bits_of C L.length
  have hC : bitA L.length w = C := by
   funext x
   unfold bitA
   by_cases hx : x < L.length
   ·rw [decide_eq_true hx, Bool.true_and, Bool.eq_iff_iff, decide_eq_true_eq]; exact w2 x hx
   ·rw [decide_eq_false hx, Bool.false_and]
    cases q : C x with
    | false => rfl
    | true => exact absurd (c1.sup x q) hx
  have he1 := (w2 e he).2 c2
  refine ⟨w, ?_, w1, (cycB_iff hc h hm w).2 (hC ▸ c1), he1, (w2 f hf).2 c3⟩
  rcases Nat.eq_zero_or_pos w with q | q
  ·subst q; unfold bitN at he1; simp at he1
  ·exact q
section
variable {g : G} {n : Nat} {L : List (Nat × Nat)}
theorem NG.pair (h : NG g n L) {p : Int × Int} : p ∈ endsL g.es ↔ ∃ f, f < L.length ∧ p = (((edL L f).1 : Int), ((edL L f).2 : Int)) := by
 rw [h.ends]
 unfold LI
 rw [List.mem_map]
 constructor
 ·rintro ⟨q, hq, rfl⟩
  obtain ⟨f, hf, rfl⟩ := List.getElem_of_mem hq
  exact ⟨f, hf, by unfold edL; rw [List.getD_eq_getElem?_getD, List.getElem?_eq_getElem hf]; rfl⟩
 ·rintro ⟨f, hf, rfl⟩
  exact ⟨L[f], List.getElem_mem hf, by unfold edL; rw [List.getD_eq_getElem?_getD, List.getElem?_eq_getElem hf]; rfl⟩
theorem ends_of {es : List E} {e : E} (he : e ∈ es) (hm : 1 ≤ e.m) : (e.a, e.b) ∈ endsL es :=
 List.mem_flatMap.2 ⟨e, he, List.mem_replicate.2 ⟨by omega, rfl⟩⟩
theorem pos_m (hc : checkG g = 0) : ∀ e, e ∈ g.es → 1 ≤ e.m := fun e he => by
 have := (checkG_zero.1 hc).2.1 e he; unfold okE at this; omega
theorem offV_wo (hc : checkG g = 0) (h : NG g n L) (v : Nat) : OffV L v (endsL (woL g.es v)) := fun p => by
 constructor
 ·intro hp
  obtain ⟨e, he, rfl⟩ := endsL_mem hp
  obtain ⟨h1, h2⟩ := List.mem_filter.1 he
  rw [Bool.and_eq_true, decide_eq_true_eq, decide_eq_true_eq] at h2
  obtain ⟨f, hf, hq⟩ := h.pair.1 (ends_of h1 (pos_m hc e h1))
  have q1 := congrArg Prod.fst hq
  have q2 := congrArg Prod.snd hq
  simp only at q1 q2
  exact ⟨f, hf, fun t => by rcases t with t | t <;> omega, hq⟩
 ·rintro ⟨f, hf, hv, rfl⟩
  obtain ⟨e, he, hq⟩ := endsL_mem (h.pair.2 ⟨f, hf, rfl⟩)
  have q1 := congrArg Prod.fst hq
  have q2 := congrArg Prod.snd hq
  simp only at q1 q2
  rw [hq]
  refine ends_of (List.mem_filter.2 ⟨he, ?_⟩) (pos_m hc e he)
  rw [Bool.and_eq_true, decide_eq_true_eq, decide_eq_true_eq]
  exact ⟨fun t => hv (.inl (by omega)), fun t => hv (.inr (by omega))⟩
theorem nei_iff (hc : checkG g = 0) (h : NG g n L) {v x : Nat} : (x : Int) ∈ neiR g.es v n ↔ x < n ∧ x ≠ v ∧ ∃ e, NL L e ∧ tch L e v ∧ tch L e x := by
 unfold neiR
 rw [inL_mem]
 unfold neiP
 rw [Bool.and_eq_true, decide_eq_true_eq, cntL_pos (pos_m hc)]
 constructor
 ·rintro ⟨h1, h2, e, he, ha, hb⟩
  have hxv : x ≠ v := fun q => by rw [q] at h2; simp at h2
  obtain ⟨f, hf, hq⟩ := h.pair.1 (ends_of he (pos_m hc e he))
  have q1 := congrArg Prod.fst hq
  have q2 := congrArg Prod.snd hq
  simp only at q1 q2
  refine ⟨by omega, hxv, f, ⟨hf, by omega⟩, ?_, ?_⟩
  ·unfold tch; omega
  ·unfold tch; omega
 ·rintro ⟨h1, h2, f, hf, hv, hx⟩
  have hp := h.pair.2 ⟨f, hf.1, rfl⟩
  have ho := (ends_okP hc hp).2.2
  simp only at ho
  obtain ⟨e, he, hq⟩ := endsL_mem hp
  have q1 := congrArg Prod.fst hq
  have q2 := congrArg Prod.snd hq
  simp only at q1 q2
  have hnl := hf.2
  unfold tch at hv hx
  refine ⟨by omega, ?_, e, he, by omega, by omega⟩
  rw [decide_eq_false (by omega)]; rfl
theorem arB_iff (hc : checkG g = 0) (h : NG g n L) {v : Nat} : arB g.es n v = true ↔ ∃ e f, NL L e ∧ NL L f ∧ tch L e v ∧ tch L f v ∧ ¬ Rel L e f := by
 have hK := offV_wo hc h v
 have hwc := wo_check hc v
 have hsp : ∀ x0 y : Nat, x0 < n → y < n → ((reachL (woL g.es v) n x0).getD y false = true ↔ Conn (endsL (woL g.es v)) x0 y) := fun x0 y h1 h2 => by
  have := reach_spec (g := ⟨g.n, woL g.es v⟩) hwc h.hn h1 h2
  rw [← this]
  unfold GT
  first | rfl | (rw [List.getD_eq_getElem?_getD]) | simp
 have hnr := fun x : Nat => nei_iff hc h (v := v) (x := x)
 have hall : ∀ x, x ∈ neiR g.es v n → ∃ y : Nat, x = y := fun x hx => ⟨x.toNat, by have := (inL_mem.1 hx).1; omega⟩
 unfold arB arR
 generalize neiR g.es v n = nv at *
 generalize endsL (woL g.es v) = K at *
 match nv with
 | [] =>
  refine ⟨fun q => by simp at q, fun ⟨e, f, he, _, hev, _⟩ => ?_⟩
  obtain ⟨o1, o2⟩ := oth_tch he hev
  have hlt : (edL L e).1 + (edL L e).2 - v < n := by
   have hm : edL L e ∈ L := by unfold edL; rw [List.getD_eq_getElem?_getD, List.getElem?_eq_getElem he.1]; exact List.getElem_mem he.1
   have := h.lt _ hm
   unfold tch at o1; omega
  exact absurd ((hnr _).2 ⟨hlt, o2, e, he, hev, o1⟩) (by simp)
 | z :: l =>
  obtain ⟨x0, rfl⟩ := hall z (by simp)
  obtain ⟨a1, a2, e0, a3, a4, a5⟩ := (hnr x0).1 (by simp)
  rw [List.drop_one, List.tail_cons, List.any_eq_true, List.getD_cons_zero, Int.toNat_natCast]
  constructor
  ·rintro ⟨x, hx, hr⟩
   obtain ⟨y, rfl⟩ := hall x (by simp [hx])
   obtain ⟨b1, b2, e1, b3, b4, b5⟩ := (hnr y).1 (by simp [hx])
   refine ⟨e0, e1, a3, b3, a4, b4, fun hR => ?_⟩
   have := (hsp x0 y a1 b1).2 ((rel_off hK a3 b3 a4 b4 a5 b5 a2 b2).1 hR)
   rw [Int.toNat_natCast, this] at hr
   cases hr
  ·rintro ⟨e, f, he, hf, hev, hfv, hR⟩
   refine Classical.byContradiction fun hno => hR ?_
   have key : ∀ e, NL L e → tch L e v → ∃ x, x ≠ v ∧ tch L e x ∧ Conn K x0 x := fun e he hev => by
    obtain ⟨o1, o2⟩ := oth_tch he hev
    have hlt : (edL L e).1 + (edL L e).2 - v < n := by
     have hm : edL L e ∈ L := by unfold edL; rw [List.getD_eq_getElem?_getD, List.getElem?_eq_getElem he.1]; exact List.getElem_mem he.1
     have := h.lt _ hm
     unfold tch at o1; omega
    generalize (edL L e).1 + (edL L e).2 - v = x at *
    refine ⟨x, o2, o1, ?_⟩
    rcases List.mem_cons.1 ((hnr x).2 ⟨hlt, o2, e, he, hev, o1⟩) with q | q
    ·have : x = x0 := by omega
     rw [this]; exact .refl
    ·refine (hsp x0 x a1 hlt).1 ?_
     cases r : (reachL (woL g.es v) n x0).getD x false with
     | true => rfl
     | false => exact absurd ⟨(x : Int), q, by rw [Int.toNat_natCast, r]; rfl⟩ hno
   obtain ⟨x, x1, x2, x3⟩ := key e he hev
   obtain ⟨y, y1, y2, y3⟩ := key f hf hfv
   exact (rel_off hK he hf hev hfv x2 y2 x1 y1).2 (x3.symm.trans y3)
theorem arts_eq (hc : checkG g = 0) (h : NG g n L) : artI L (blocksB L n) n = arF g.es n n := by
 unfold artI arF
 refine List.filter_congr fun v hv => ?_
 rw [Bool.eq_iff_iff, decide_eq_true_eq, art_two h.h12 h.lt, arB_iff hc h]
end
set_option maxHeartbeats 1000000
noncomputable def cycW (L : List (Nat × Nat)) (g : G) (n k : Nat) : List (List Nat) := ((List.range k).filter fun j => cycP L g n (j + 1)).map fun j => setN L.length (j + 1)
theorem cycW_succ (L : List (Nat × Nat)) (g : G) (n k : Nat) : cycW L g n (k + 1) = if cycP L g n (k + 1) = true then cycW L g n k ++ [setN L.length (k + 1)] else cycW L g n k := by
 unfold cycW
 rw [List.range_succ, List.filter_append, List.map_append]
 cases h : cycP L g n (k + 1) <;> simp [h]
theorem cycW_len (L : List (Nat × Nat)) (g : G) (n k : Nat) : (cycW L g n k).length ≤ k := by
 unfold cycW; rw [List.length_map]; exact Nat.le_trans (List.length_filter_le _ _) (by simp)
def blkW (cs : List (List Int)) (e k : Nat) : List Nat := (List.range k).filter fun f => decide (f = e) || cs.any (comB e f)
theorem blkW_succ (cs : List (List Int)) (e k : Nat) : blkW cs e (k + 1) = if (decide (k = e) || cs.any (comB e k)) = true then blkW cs e k ++ [k] else blkW cs e k := by
 unfold blkW
 rw [List.range_succ, List.filter_append]
 cases h : decide (k = e) || cs.any (comB e k) <;> simp only [List.filter_cons, List.filter_nil, h, List.append_nil] <;> simp
theorem blkW_len (cs : List (List Int)) (e k : Nat) : (blkW cs e k).length ≤ k := by unfold blkW; exact Nat.le_trans (List.length_filter_le _ _) (by simp)
def blkR (cs : List (List Int)) (m k : Nat) : List (List Nat) := ((List.range k).filter fun e => decide ((blkW cs e m).getD 0 0 = e)).map fun e => blkW cs e m
theorem blkR_succ (cs : List (List Int)) (m k : Nat) : blkR cs m (k + 1) = if (blkW cs k m).getD 0 0 = k then blkR cs m k ++ [blkW cs k m] else blkR cs m k := by
 unfold blkR
 rw [List.range_succ, List.filter_append, List.map_append]
 by_cases h : (blkW cs k m).getD 0 0 = k
 ·rw [if_pos h, List.filter_cons, if_pos (decide_eq_true h)]; rfl
 ·rw [if_neg h, List.filter_cons, if_neg (by simpa using h)]; simp
theorem blkR_len (cs : List (List Int)) (m k : Nat) : (blkR cs m k).length ≤ k := by
 unfold blkR; rw [List.length_map]; exact Nat.le_trans (List.length_filter_le _ _) (by simp)
section
variable {g : G} {n : Nat} {L : List (Nat × Nat)}
theorem blkW_mem (hc : checkG g = 0) (h : NG g n L) (hm : L.length ≤ 40) {e f : Nat} (he : e < L.length) : f ∈ blkW (oI (cycW L g n (2 ^ L.length - 1))) e L.length ↔ f < L.length ∧ Rel L e f := by
 unfold blkW
 rw [List.mem_filter, List.mem_range, Bool.or_eq_true, decide_eq_true_eq]
 refine ⟨fun ⟨q1, q2⟩ => ⟨q1, ?_⟩, fun ⟨q1, q2⟩ => ⟨q1, ?_⟩⟩
 ·rcases q2 with q2 | q2
  ·exact .inl q2.symm
  ·right
   obtain ⟨c, c1, c2⟩ := List.any_eq_true.1 q2
   unfold oI cycW at c1
   rw [List.map_map] at c1
   obtain ⟨j, j1, rfl⟩ := List.mem_map.1 c1
   rw [List.mem_filter, List.mem_range] at j1
   unfold comB at c2
   simp only [Function.comp_apply, Bool.and_eq_true, decide_eq_true_eq] at c2
   rw [setN_in he, setN_in q1] at c2
   exact (common_iff hc h hm he q1).1 ⟨j + 1, by omega, by omega, j1.2, c2.1, c2.2⟩
 ·rcases q2 with q2 | q2
  ·exact .inl q2.symm
  ·right
   obtain ⟨w, w0, w1, w2, w3, w4⟩ := (common_iff hc h hm he q1).2 q2
   refine List.any_eq_true.2 ⟨zI (setN L.length w), ?_, ?_⟩
   ·unfold oI cycW
    rw [List.map_map]
    refine List.mem_map.2 ⟨w - 1, List.mem_filter.2 ⟨List.mem_range.2 (by omega), ?_⟩, ?_⟩
    ·rw [show w - 1 + 1 = w by omega]; exact w2
    ·show zI (setN L.length (w - 1 + 1)) = _
     rw [show w - 1 + 1 = w by omega]
   ·unfold comB
    rw [decide_eq_true ((setN_in he).2 w3), decide_eq_true ((setN_in q1).2 w4)]; rfl
theorem blkW_first (hc : checkG g = 0) (h : NG g n L) (hm : L.length ≤ 40) {e : Nat} (he : e < L.length) : (blkW (oI (cycW L g n (2 ^ L.length - 1))) e L.length).getD 0 0 = e ↔ ∀ u, u < e → ¬ Rel L e u := by
 have hp : (fun f => decide (f = e) || (oI (cycW L g n (2 ^ L.length - 1))).any (comB e f)) e = true := by simp
 have := filter_first (p := fun f => decide (f = e) || (oI (cycW L g n (2 ^ L.length - 1))).any (comB e f)) (n := L.length) (v := e) he hp
 unfold blkW
 rw [this]
 refine ⟨fun q u hu hr => ?_, fun q u hu => ?_⟩
 ·have := (blkW_mem hc h hm he (f := u)).2 ⟨by omega, hr⟩
  unfold blkW at this
  rw [List.mem_filter, q u hu] at this
  cases this.2
 ·rw [← Bool.not_eq_true]
  intro hx
  refine q u hu ((blkW_mem hc h hm he (f := u)).1 ?_).2
  unfold blkW
  exact List.mem_filter.2 ⟨List.mem_range.2 (by omega), hx⟩
theorem blocks_eq (hc : checkG g = 0) (h : NG g n L) (hm : L.length ≤ 40) : blocksB L n = blkR (oI (cycW L g n (2 ^ L.length - 1))) L.length L.length := by
 obtain ⟨nb, h1, h2⟩ := blkF h.h12 h.lt
 have hB := fun e he f => blkW_mem hc h hm (e := e) (f := f) he
 have hF := fun e he => blkW_first hc h hm (e := e) he
 have hsort : ∀ e, (blkW (oI (cycW L g n (2 ^ L.length - 1))) e L.length).Pairwise (· < ·) := fun e => List.pairwise_lt_range.filter _
 unfold blkR
 generalize oI (cycW L g n (2 ^ L.length - 1)) = cs at *
 have hmem : ∀ B, B ∈ blocksB L n ↔ B ∈ loopsB L ∨ B ∈ nb := fun B => by
  unfold blocksB
  rw [(isortL_perm _).mem_iff, h1, List.mem_append]
 have hlp : ∀ e, e < L.length → (edL L e).1 = (edL L e).2 → ∀ f, Rel L e f → f = e := fun e he hl f hr => by
  rcases hr with q | ⟨C, c1, c2, c3⟩
  ·exact q.symm
  ·exact c1.loop c2 hl f c3
 have hone : ∀ e, e < L.length → (edL L e).1 = (edL L e).2 → blkW cs e L.length = [e] := fun e he hl => ltx (hsort e) (by simp) fun f => by
  rw [hB e he f, List.mem_singleton]
  exact ⟨fun q => hlp e he hl f q.2, fun q => by rw [q]; exact ⟨he, Rel.refl⟩⟩
 have hcls : ∀ B, B ∈ nb → ∀ e, e ∈ B → e < L.length ∧ blkW cs e L.length = B := fun B hb e he => by
  have hel := ((h2.mem e).1 (List.mem_flatten.2 ⟨B, hb, he⟩)).1
  refine ⟨hel, ltx (hsort e) (h2.srt B hb) fun f => ?_⟩
  rw [hB e hel f, h2.cls hb he f]
  exact ⟨fun q => q.2, fun q => ⟨((h2.mem f).1 (List.mem_flatten.2 ⟨B, hb, (h2.cls hb he f).2 q⟩)).1, q⟩⟩
 have heads : ∀ e, (e < L.length ∧ (blkW cs e L.length).getD 0 0 = e) → ∃ r, blkW cs e L.length = e :: r := fun e ⟨q1, q2⟩ => by
  have hm := (hB e q1 e).2 ⟨q1, Rel.refl⟩
  cases hb : blkW cs e L.length with
  | nil => rw [hb] at hm; cases hm
  | cons x r => rw [hb] at q2; simp at q2; exact ⟨r, by rw [q2]⟩
 have hpw : (((List.range L.length).filter fun e => decide ((blkW cs e L.length).getD 0 0 = e)).map fun e => blkW cs e L.length).Pairwise fun a b => befN b a = false ∧ a ≠ b := by
  rw [List.pairwise_map]
  refine (List.pairwise_lt_range.filter _).imp_of_mem fun {a b} ha hb hab => ?_
  rw [List.mem_filter, List.mem_range, decide_eq_true_eq] at ha hb
  obtain ⟨r, hr⟩ := heads a ha
  obtain ⟨s, hs⟩ := heads b hb
  rw [hr, hs]
  refine ⟨?_, fun q => ?_⟩
  ·unfold befN
   rw [decide_eq_false (show ¬ b < a by omega), decide_eq_false (show ¬ b = a by omega)]; rfl
  ·have := (List.cons.inj q).1; omega
 have hndB : (blocksB L n).Nodup := by
  unfold blocksB
  rw [(isortL_perm _).nodup_iff, h1, List.nodup_append]
  refine ⟨?_, ?_, fun B q1 B' q2 e => ?_⟩
  ·unfold loopsB
   exact ((List.nodup_range.filter _).map (f := fun e => [e]) (by intro a b hab q; exact hab (by simpa using q)))
  ·have := (List.pairwise_flatten.1 h2.nd).2
   refine this.imp_of_mem fun {a b} ha hb hd q => ?_
   subst q
   obtain ⟨x, hx⟩ := List.exists_mem_of_ne_nil _ (h2.ne a ha)
   exact hd x hx x hx rfl
  ·subst e
   obtain ⟨x, rfl, x1, x2⟩ := loopsB_mem.1 q1
   exact ((h2.mem x).1 (List.mem_flatten.2 ⟨[x], q2, by simp⟩)).2 x2
 refine List.Perm.eq_of_pairwise (le := fun a b => befN b a = false) (fun a b _ _ q1 q2 => befN_total a b q2 q1) (isortL_sorted _) (hpw.imp fun q => q.1) ((List.perm_ext_iff_of_nodup hndB (hpw.imp fun q => q.2)).2 fun B => ?_)
 rw [hmem, List.mem_map]
 constructor
 ·rintro (hl | hb)
  ·obtain ⟨e, rfl, e1, e2⟩ := loopsB_mem.1 hl
   refine ⟨e, List.mem_filter.2 ⟨List.mem_range.2 e1, ?_⟩, hone e e1 e2⟩
   rw [hone e e1 e2]; simp
  ·obtain ⟨e, r, hr⟩ : ∃ e r, B = e :: r := by
    cases hB' : B with
    | nil => exact absurd hB' (h2.ne B hb)
    | cons e r => exact ⟨e, r, rfl⟩
   obtain ⟨q1, q2⟩ := hcls B hb e (by rw [hr]; simp)
   refine ⟨e, List.mem_filter.2 ⟨List.mem_range.2 q1, ?_⟩, q2⟩
   rw [q2, hr]; simp
 ·rintro ⟨e, e1, rfl⟩
  rw [List.mem_filter, List.mem_range, decide_eq_true_eq] at e1
  by_cases hl : (edL L e).1 = (edL L e).2
  ·left
   rw [hone e e1.1 hl]
   exact loopsB_mem.2 ⟨e, rfl, e1.1, hl⟩
  ·right
   obtain ⟨B, b1, b2⟩ := List.mem_flatten.1 ((h2.mem e).2 ⟨e1.1, hl⟩)
   rw [(hcls B b1 e b2).2]; exact b1
end
end Go.Proofs.Ytgklecfiflhjmaa
