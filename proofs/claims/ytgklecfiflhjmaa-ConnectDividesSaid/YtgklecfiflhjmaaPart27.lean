/- A part of the proof. -/
import Derived.Test.YtgklecfiflhjmaaPart26
import Derived.Test.YtgklecfiflhjmaaPart12
import Derived.Test.YtgklecfiflhjmaaLayerC
import Derived.Test.YtgklecfiflhjmaaPart06
import Derived.Test.YtgklecfiflhjmaaPart19
import Derived.Test.YtgklecfiflhjmaaPart18
import Derived.Test.YtgklecfiflhjmaaPart16
import Derived.Test.YtgklecfiflhjmaaPart22
import Derived.Test.YtgklecfiflhjmaaPart24
import Derived.Test.YtgklecfiflhjmaaPart11
import Derived.Test.YtgklecfiflhjmaaPart13
import Derived.Test.YtgklecfiflhjmaaPart14
import Derived.Test.YtgklecfiflhjmaaPart09
set_option linter.all false
set_option maxHeartbeats 4000000
set_option maxRecDepth 100000
namespace Go.Proofs.Ytgklecfiflhjmaa
open Go.Sp
def OffE (L : List (Nat × Nat)) (e : Nat) (K : List (Int × Int)) : Prop := ∀ p : Int × Int, p ∈ K ↔ ∃ f, f < L.length ∧ f ≠ e ∧ p = (((edL L f).1 : Int), ((edL L f).2 : Int))
section
variable {L : List (Nat × Nat)} {e : Nat} {K : List (Int × Int)}
theorem path_of (P : Nat → Prop) (hK : ∀ p : Int × Int, p ∈ K → ∃ f, f < L.length ∧ P f ∧ p = (((edL L f).1 : Int), ((edL L f).2 : Int))) {u v : Nat} (h : Conn K u v) : ∃ A, SupA L A ∧ (∀ f, A f = true → P f) ∧ ∀ S, cross L A S = xor (S u) (S v) := by
 induction h with
 | refl => exact ⟨fun _ => false, fun f h => by (cases h), fun f h => by (cases h), fun S => by rw [Bool.xor_self]; exact xsb_false _⟩
 | step hc hs ih =>
  rename_i b c
  obtain ⟨A, a1, a2, a3⟩ := ih
  obtain ⟨f, f1, f2, f3⟩ : ∃ f, f < L.length ∧ P f ∧ ∀ S : Nat → Bool, crs L S f = xor (S b) (S c) := by
   rcases hs with hs | hs
   ·obtain ⟨f, f1, f2, f3⟩ := hK _ hs
    have q1 := congrArg Prod.fst f3
    have q2 := congrArg Prod.snd f3
    simp only at q1 q2
    refine ⟨f, f1, f2, fun S => ?_⟩
    unfold crs
    rw [show (edL L f).1 = b by omega, show (edL L f).2 = c by omega]
   ·obtain ⟨f, f1, f2, f3⟩ := hK _ hs
    have q1 := congrArg Prod.fst f3
    have q2 := congrArg Prod.snd f3
    simp only at q1 q2
    refine ⟨f, f1, f2, fun S => ?_⟩
    unfold crs
    rw [show (edL L f).1 = c by omega, show (edL L f).2 = b by omega, Bool.xor_comm]
  refine ⟨xorA A (oneA f), a1.xor (SupA.one f1), fun x hx => ?_, fun S => ?_⟩
  ·unfold xorA oneA at hx
   by_cases q : x = f
   ·rw [q]; exact f2
   ·rw [decide_eq_false q, Bool.xor_false] at hx; exact a2 x hx
  ·rw [cross_xor, a3, cross_one L f1, f3]
   cases S u <;> cases S b <;> cases S c <;> rfl
theorem even_in (hf : e < L.length) {A : Nat → Bool} (h1 : SupA L A) (h2 : A e = false) (h3 : ∀ S, cross L A S = crs L S e) : ∃ C, Circ L C ∧ C e = true ∧ ∀ f, C f = true → f = e ∨ A f = true := by
 obtain ⟨C, c1, c2, c3⟩ := circ_in (A := xorA A (oneA e)) (h1.xor (SupA.one hf)) (fun S => by rw [cross_xor, h3, cross_one L hf, Bool.xor_self]) (e := e) (by unfold xorA oneA; rw [h2, decide_eq_true rfl]; rfl)
 refine ⟨C, c1, c2, fun f hC => ?_⟩
 have := c3 f hC
 unfold xorA oneA at this
 by_cases q : f = e
 ·exact .inl q
 ·rw [decide_eq_false q, Bool.xor_false] at this; exact .inr this
theorem Circ.other {C : Nat → Bool} (h : Circ L C) (he : C e = true) (hn : NL L e) : ∃ f, f ≠ e ∧ C f = true := by
 refine Classical.byContradiction fun hx => ?_
 have hf : ∀ f, f ≠ e → C f = false := fun f hf => by
  cases q : C f with
  | false => rfl
  | true => exact absurd ⟨f, hf, q⟩ hx
 have h1 := h.ev (fun x => decide (x = (edL L e).1))
 unfold cross at h1
 rw [xsb_one (i := e) (fun f hf' => by rw [hf f hf']; rfl) hn.1, he, Bool.true_and] at h1
 unfold crs at h1
 simp only at h1
 rw [decide_eq_false (show ¬ (edL L e).2 = (edL L e).1 from fun q => hn.2 q.symm)] at h1
 simp at h1
theorem off_circ (hK : OffE L e K) (hn : NL L e) : (¬ Conn K (edL L e).1 (edL L e).2) ↔ ∀ f, Rel L e f → f = e := by
 constructor
 ·intro h f hr
  rcases hr with q | ⟨C, h1, h2, h3⟩
  ·exact q.symm
  ·refine Classical.byContradiction fun hne => ?_
   classical
   have hev := h1.ev (fun x => decide (Conn K (edL L e).1 x))
   unfold cross at hev
   rw [xsb_one (i := e) (fun g hg => ?_) hn.1, h2, Bool.true_and] at hev
   ·unfold crs at hev
    simp only at hev
    rw [decide_eq_true Conn.refl, decide_eq_false h] at hev
    cases hev
   ·cases hC : C g with
    | false => rfl
    | true =>
     have hgl := h1.sup g hC
     have hm := (hK _).2 ⟨g, hgl, hg, rfl⟩
     rw [Bool.true_and]
     unfold crs
     simp only
     rw [decide_eq_decide.2 (show Conn K (edL L e).1 (edL L g).1 ↔ Conn K (edL L e).1 (edL L g).2 from ⟨fun q => q.step (.inl hm), fun q => q.step (.inr hm)⟩), Bool.xor_self]
 ·intro h hc
  obtain ⟨A, a1, a2, a3⟩ := path_of (P := fun f => f ≠ e) (fun p hp => by obtain ⟨f, f1, f2, f3⟩ := (hK p).1 hp; exact ⟨f, f1, f2, f3⟩) hc
  have hAe : A e = false := by
   cases q : A e with
   | false => rfl
   | true => exact absurd rfl (a2 e q)
  obtain ⟨C, c1, c2, _⟩ := even_in hn.1 a1 hAe (fun S => by rw [a3]; rfl)
  obtain ⟨f, f1, f2⟩ := c1.other c2 hn
  exact f1 (h f (.inr ⟨C, c1, c2, f2⟩))
end
theorem conn_le {l m : List (Int × Int)} (h : ∀ p, p ∈ l → p ∈ m) {u v : Nat} (hc : Conn l u v) : Conn m u v := by
 induction hc with
 | refl => exact .refl
 | step _ hs ih => exact ih.step (hs.imp (h _) (h _))
set_option maxHeartbeats 1000000
def ptE (L : List (Nat × Nat)) (l : List Nat) : List (Int × Int) := l.map fun f => (((edL L f).1 : Int), ((edL L f).2 : Int))
def selA (A : Nat → Bool) (m : Nat) : List Nat := (List.range m).filter A
theorem mem_selA {A : Nat → Bool} {m f : Nat} : f ∈ selA A m ↔ f < m ∧ A f = true := by
 unfold selA; rw [List.mem_filter, List.mem_range]
theorem ptE_append (L : List (Nat × Nat)) (a b : List Nat) : ptE L (a ++ b) = ptE L a ++ ptE L b := by unfold ptE; rw [List.map_append]
theorem ptE_len (L : List (Nat × Nat)) (l : List Nat) : (ptE L l).length = l.length := by simp [ptE]
theorem ptE_mem {L : List (Nat × Nat)} {l : List Nat} {p : Int × Int} : p ∈ ptE L l ↔ ∃ f, f ∈ l ∧ p = (((edL L f).1 : Int), ((edL L f).2 : Int)) := by
 unfold ptE; rw [List.mem_map]
 exact ⟨fun ⟨f, h1, h2⟩ => ⟨f, h1, h2.symm⟩, fun ⟨f, h1, h2⟩ => ⟨f, h1, h2.symm⟩⟩
theorem b2iN (a b : Nat) : b2i ((a : Int) = (b : Int)) = if a = b then 1 else 0 := by
 unfold b2i
 by_cases h : a = b
 ·rw [if_pos h, if_pos (by omega)]
 ·rw [if_neg h, if_neg (by omega)]
theorem degE_one (L : List (Nat × Nat)) (v f : Nat) : degL (v : Int) (ptE L [f]) = (if (edL L f).1 = v then 1 else 0) + if (edL L f).2 = v then 1 else 0 := by
 show b2i (((edL L f).1 : Int) = (v : Int)) + b2i (((edL L f).2 : Int) = (v : Int)) + 0 = _
 rw [b2iN, b2iN]; omega
theorem deg_untouched (L : List (Nat × Nat)) (v : Nat) : ∀ l : List Nat, degL (v : Int) (ptE L l) = 0 ↔ ∀ f, f ∈ l → ¬ tch L f v
 | [] => by simp [ptE, degL]
 | f :: l => by
  have ih := deg_untouched L v l
  have e : ptE L (f :: l) = ptE L [f] ++ ptE L l := rfl
  have hb := degL_bound (v : Int) (ptE L l)
  rw [e, degL_append, degE_one]
  constructor
  ·intro h g hg
   have h0 : degL (v : Int) (ptE L l) = 0 ∧ (edL L f).1 ≠ v ∧ (edL L f).2 ≠ v := by
    split at h <;> split at h <;> first | omega | exact ⟨by omega, by assumption, by assumption⟩
   rcases List.mem_cons.1 hg with rfl | hg
   ·exact fun q => q.elim h0.2.1 h0.2.2
   ·exact ih.1 h0.1 g hg
  ·intro h
   have h1 := h f (by simp)
   rw [if_neg (fun q => h1 (.inl q)), if_neg (fun q => h1 (.inr q)), ih.2 fun g hg => h g (by simp [hg])]; rfl
theorem edL_mem {L : List (Nat × Nat)} {f : Nat} (hf : f < L.length) : edL L f ∈ L := by
 unfold edL; rw [List.getD_eq_getElem?_getD, List.getElem?_eq_getElem hf]; exact List.getElem_mem hf
section
variable {L : List (Nat × Nat)} {n : Nat} {A : Nat → Bool}
theorem sel_conn {l : List Nat} {f a b x : Nat} (hf : f ∈ l) (ha : tch L f a) (hb : tch L f b) (h : Conn (ptE L l) x a) : Conn (ptE L l) x b := by
 have hm := (ptE_mem (L := L)).2 ⟨f, hf, rfl⟩
 rcases ha with rfl | rfl <;> rcases hb with rfl | rfl
 ·exact h
 ·exact h.step (.inl hm)
 ·exact h.step (.inr hm)
 ·exact h
theorem sel_touched {l : List Nat} {x y : Nat} (h : Conn (ptE L l) x y) : x = y ∨ (∃ f, f ∈ l ∧ tch L f x) ∧ ∃ f, f ∈ l ∧ tch L f y := by
 induction h with
 | refl => exact .inl rfl
 | step hc hs ih =>
  right
  rename_i b c
  obtain ⟨f, f1, f2, f3⟩ : ∃ f, f ∈ l ∧ tch L f b ∧ tch L f c := by
   rcases hs with hs | hs <;>
   ·obtain ⟨f, f1, f2⟩ := ptE_mem.1 hs
    have q1 := congrArg Prod.fst f2
    have q2 := congrArg Prod.snd f2
    simp only at q1 q2
    first
    | exact ⟨f, f1, .inl (by omega), .inr (by omega)⟩
    | exact ⟨f, f1, .inr (by omega), .inl (by omega)⟩
  rcases ih with rfl | ⟨ih, _⟩
  ·exact ⟨⟨f, f1, f2⟩, f, f1, f3⟩
  ·exact ⟨ih, f, f1, f3⟩
theorem two_filters {q p : Nat → Bool} : ∀ {l : List Nat}, (∀ x, x ∈ l → q x = false → p x = true) → (l.filter p).length + l.countP q = l.length + (l.filter fun x => q x && p x).length
 | [], _ => rfl
 | x :: l, h => by
  have ih := two_filters (l := l) fun y hy => h y (by simp [hy])
  have hx := h x (by simp)
  rw [List.filter_cons, List.filter_cons, List.countP_cons, List.length_cons]
  cases hq : q x with
  | false => rw [hx hq]; simp; omega
  | true => cases hp : p x <;> simp <;> omega
theorem sel_length_one {l : List Nat} (hl : l.Nodup) {r : Nat} (hr : r ∈ l) (h : ∀ x, x ∈ l → x = r) : l.length = 1 := by
 match l, hl, hr, h with
 | [x], _, _, _ => rfl
 | x :: y :: l, hl, _, h =>
  have h1 := h x (by simp)
  have h2 := h y (by simp)
  rw [List.nodup_cons] at hl
  exact absurd (by rw [h1, h2]; simp) hl.1
theorem Circ.conn (h : Circ L A) {x y : Nat} (hx : ∃ f, A f = true ∧ tch L f x) (hy : ∃ f, A f = true ∧ tch L f y) : Conn (ptE L (selA A L.length)) x y := by
 classical
 have hs := h.sup
 obtain ⟨f, f1, f2⟩ := hx
 obtain ⟨g, g1, g2⟩ := hy
 have hev : EvenA L (fun e => A e && decide (∃ u, tch L e u ∧ Conn (ptE L (selA A L.length)) x u)) := fun S => by
  rw [← h.ev (fun u => S u && decide (Conn (ptE L (selA A L.length)) x u))]
  unfold cross
  refine xsb_congr fun e he => ?_
  cases hA : A e with
  | false => simp only [hA, Bool.false_and]
  | true =>
   have hm := mem_selA.2 ⟨he, hA⟩
   unfold crs
   simp only [hA, Bool.true_and]
   by_cases q : Conn (ptE L (selA A L.length)) x (edL L e).1
   ·have q2 := sel_conn hm (.inl rfl) (.inr rfl) q
    rw [decide_eq_true (p := ∃ u, tch L e u ∧ _) ⟨_, .inl rfl, q⟩, decide_eq_true q, decide_eq_true q2, Bool.and_true, Bool.and_true, Bool.true_and]
   ·have q2 : ¬ Conn (ptE L (selA A L.length)) x (edL L e).2 := fun q2 => q (sel_conn hm (.inr rfl) (.inl rfl) q2)
    rw [decide_eq_false (p := ∃ u, tch L e u ∧ _) (by rintro ⟨u, rfl | rfl, hu⟩; exact q hu; exact q2 hu), decide_eq_false q, decide_eq_false q2, Bool.and_false, Bool.and_false, Bool.false_and]; rfl
 have := h.mn _ (fun e he => by rw [Bool.and_eq_true] at he; exact he.1) hev ⟨f, by rw [f1, decide_eq_true (p := ∃ u, tch L f u ∧ _) ⟨x, f2, .refl⟩]; rfl⟩ g g1
 rw [g1, Bool.true_and, decide_eq_true_eq] at this
 obtain ⟨u, u1, u2⟩ := this
 exact sel_conn (mem_selA.2 ⟨hs g g1, g1⟩) u1 g2 u2
theorem conn_roots {l : List Nat} (hne : l ≠ []) (hlt : ∀ f x, f ∈ l → tch L f x → x < n) (all : ∀ x y, (∃ f, f ∈ l ∧ tch L f x) → (∃ f, f ∈ l ∧ tch L f y) → Conn (ptE L l) x y) : ncls n (Conn (ptE L l)) + (List.range n).countP (fun v : Nat => decide (degL (v : Int) (ptE L l) ≠ 0)) = n + 1 := by
 classical
 have tt : ∀ v : Nat, degL (v : Int) (ptE L l) ≠ 0 ↔ ∃ f, f ∈ l ∧ tch L f v := fun v => by
  rw [Ne, deg_untouched]
  constructor
  ·intro h
   exact Classical.byContradiction fun hx => h fun f hf ht => hx ⟨f, hf, ht⟩
  ·rintro ⟨f, h1, h2⟩ h
   exact h f h1 h2
 have hroot := two_filters (l := List.range n) (q := fun v : Nat => decide (degL (v : Int) (ptE L l) ≠ 0)) (p := fun h => decide (∀ y, y < n → Conn (ptE L l) h y → h ≤ y)) fun x hx hq => by
  rw [decide_eq_false_iff_not] at hq
  refine decide_eq_true fun y hy hc => ?_
  rcases sel_touched hc with q | ⟨q, _⟩
  ·omega
  ·exact absurd ((tt x).2 q) hq
 rw [List.length_range] at hroot
 obtain ⟨e0, he0⟩ := List.exists_mem_of_ne_nil _ hne
 have hx0 : ∃ f, f ∈ l ∧ tch L f (edL L e0).1 := ⟨e0, he0, .inl rfl⟩
 obtain ⟨r, r1, ⟨r2, r3⟩, r4⟩ := least_of (P := fun y => y < n ∧ Conn (ptE L l) (edL L e0).1 y) ⟨hlt _ _ he0 (.inl rfl), .refl⟩
 have hrt : ∃ f, f ∈ l ∧ tch L f r := by
  rcases sel_touched r3 with q | ⟨_, q⟩
  ·rw [← q]; exact hx0
  ·exact q
 have h1 : ((List.range n).filter fun x : Nat => decide (degL (x : Int) (ptE L l) ≠ 0) && decide (∀ y, y < n → Conn (ptE L l) x y → x ≤ y)).length = 1 := by
  refine sel_length_one (List.nodup_range.filter _) (r := r) ?_ fun x hx => ?_
  ·rw [List.mem_filter, List.mem_range, Bool.and_eq_true, decide_eq_true_eq, decide_eq_true_eq]
   exact ⟨r2, (tt r).2 hrt, fun y hy hc => r4 y ⟨hy, r3.trans hc⟩⟩
  ·rw [List.mem_filter, List.mem_range, Bool.and_eq_true, decide_eq_true_eq, decide_eq_true_eq] at hx
   obtain ⟨x1, x2, x3⟩ := hx
   have hxt := (tt x).1 x2
   have a1 := x3 r r2 (all x r hxt hrt)
   have a2 := r4 x ⟨x1, all _ x hx0 hxt⟩
   omega
 rw [h1] at hroot
 exact hroot
end
section
variable {L : List (Nat × Nat)} {n : Nat}
theorem brI_mem (hn : n ≤ 12) (hL : ∀ p, p ∈ L → p.1 < n ∧ p.2 < n) {e : Nat} : e ∈ brI L (blocksB L n) ↔ NL L e ∧ ∀ f, Rel L e f → f = e := by
 obtain ⟨nb, h1, h2⟩ := blkF hn hL
 have hmem : ∀ B, B ∈ blocksB L n ↔ B ∈ loopsB L ∨ B ∈ nb := fun B => by
  unfold blocksB
  rw [(isortL_perm _).mem_iff, h1, List.mem_append]
 unfold brI
 rw [List.mem_map]
 constructor
 ·rintro ⟨B, hB, rfl⟩
  rw [List.mem_filter, hmem] at hB
  obtain ⟨hB, hb⟩ := hB
  unfold isBr at hb
  rw [Bool.and_eq_true, decide_eq_true_eq, decide_eq_true_eq] at hb
  obtain ⟨x, rfl⟩ := List.length_eq_one_iff.1 hb.1
  have hx : (edL L x).1 ≠ (edL L x).2 := hb.2
  rcases hB with hB | hB
  ·obtain ⟨y, q, _, q2⟩ := loopsB_mem.1 hB
   have : x = y := by simpa using q
   subst this
   exact absurd q2 hx
  ·have hxm : x ∈ nb.flatten := List.mem_flatten.2 ⟨[x], hB, by simp⟩
   refine ⟨(h2.mem x).1 hxm, fun f hf => ?_⟩
   have := (h2.cls hB (e := x) (by simp) f).2 hf
   simpa using this
 ·rintro ⟨hnl, hall⟩
  obtain ⟨B, hB, heB⟩ := List.mem_flatten.1 ((h2.mem e).2 hnl)
  have hB1 : B = [e] := by
   have hs := h2.srt B hB
   have hm : ∀ f, f ∈ B → f = e := fun f hf => hall f ((h2.cls hB heB f).1 hf)
   match B, hB, heB, hs, hm with
   | [], _, q, _, _ => cases q
   | [x], _, _, _, hm => rw [hm x (by simp)]
   | x :: y :: l, _, _, hs, hm =>
    have q1 := hm x (by simp)
    have q2 := hm y (by simp)
    have := List.rel_of_pairwise_cons hs (a' := y) (by simp)
    omega
  subst hB1
  refine ⟨[e], List.mem_filter.2 ⟨(hmem _).2 (.inr hB), ?_⟩, rfl⟩
  unfold isBr
  rw [Bool.and_eq_true, decide_eq_true_eq, decide_eq_true_eq]
  exact ⟨rfl, hnl.2⟩
end
structure MinC (g : G) (n : Nat) (w : Nat) : Prop where
 c : checkG g = 0
 n' : g.n = n
 n2 : 2 ≤ n
 odd : w % 2 = 1
 lt : w < 2 ^ n - 1
 eq : connW n g.es (2 ^ n - 1) = (cutW w g.es, setN n w)
 mn : ∀ w', w' % 2 = 1 → w' < 2 ^ n - 1 → cutW w g.es ≤ cutW w' g.es
section
variable {g : G} {n w : Nat}
end
end Go.Proofs.Ytgklecfiflhjmaa
