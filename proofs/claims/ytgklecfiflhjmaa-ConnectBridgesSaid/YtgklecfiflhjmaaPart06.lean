/- A part of the proof. -/
import Derived.Test.YtgklecfiflhjmaaPart05
import Derived.Test.YtgklecfiflhjmaaPart01
import Derived.Test.YtgklecfiflhjmaaLayerC
import Derived.Test.YtgklecfiflhjmaaLayerD
import Derived.Shelf.SlSortCmp.NoneTotal
import Derived.Test.YtgklecfiflhjmaaLayerB
set_option linter.all false
set_option maxHeartbeats 4000000
set_option maxRecDepth 100000
namespace Go.Proofs.Ytgklecfiflhjmaa
open Go.Sp
def pickL {α : Type} (l : List α) (seen : List Nat) : List α := seen.filterMap (l[·]?)
theorem pickL_snoc {α : Type} {l : List α} {seen : List Nat} {j : Nat} {x : α} (h : l[j]? = some x) : pickL l (seen ++ [j]) = pickL l seen ++ [x] := by
 simp [pickL, List.filterMap_append, h]
theorem nodup_len {n : Nat} {seen : List Nat} (h1 : seen.Nodup) (h2 : ∀ j, j ∈ seen → j < n) : seen.length ≤ n := by
 have := List.Nodup.length_le_of_subset h1 (l₂ := List.range n) (fun j hj => by simp; exact h2 j hj)
 simpa using this
theorem eRows_snoc (l : List E) (x : E) : eRows l ++ [[.int .i64 x.a, .int .i64 x.b, .int .i64 x.m]] = eRows (l ++ [x]) := by simp [eRows, eRow]
theorem eRows_k' {l : List E} {r : List Tree} (h : r ∈ eRows l) : r.length = 3 := by
 obtain ⟨x, _, rfl⟩ := List.mem_map.1 h; rfl
def atL (L : List (Int × Int)) (h : Nat) : Int := if h % 2 = 0 then (L.getD (h / 2) (0, 0)).1 else (L.getD (h / 2) (0, 0)).2
def ownL (L : List (Int × Int)) (v : Int) (k : Nat) : List Int := ((List.range k).filter fun h => decide (atL L h = v)).map fun h : Nat => (h : Int)
def halvesL (L : List (Int × Int)) (n k : Nat) : List (List Int) := (List.range n).map fun v : Nat => ownL L (v : Int) k
theorem halvesL_len (L : List (Int × Int)) (n k : Nat) : (halvesL L n k).length = n := by simp [halvesL]
structure LOk (l own : List Int) : Prop where
 nd : l.Nodup
 sub : ∀ x, x ∈ l → x ∈ own
 sup : ∀ x, x ∈ own → x ∈ l
 len : l.length = own.length
 hd : l = [] ∨ l.getD 0 0 = own.getD 0 0
def oppH (h : Nat) : Nat := h + 1 - 2 * (h % 2)
def nextI (l : List Int) (x : Int) : Int := l.getD ((l.idxOf x + 1) % l.length) 0
def nextR (L : List (Int × Int)) (ar : List (List Int)) (h : Nat) : Int := nextI (ar.getD (atL L h).toNat []) (h : Int)
def fR (L : List (Int × Int)) (ar : List (List Int)) (h : Nat) : Nat := (nextR L ar (oppH h)).toNat
theorem nodup_at {α : Type} {l : List α} (hn : l.Nodup) {i j : Nat} (hi : i < l.length) (hj : j < l.length) (e : l[i] = l[j]) : i = j := by
 rw [List.Nodup, List.pairwise_iff_getElem] at hn
 rcases Nat.lt_trichotomy i j with h | h | h
 ·exact absurd e (hn i j hi hj h)
 ·exact h
 ·exact absurd e.symm (hn j i hj hi h)
set_option maxHeartbeats 1000000
theorem visB_found {L : List (Nat × Nat)} (hL : ∀ p, p ∈ L → p.1 < 12 ∧ p.2 < 12) : ∀ (k v : Nat) (by' : Int) (anc : Nat → Prop) (s : BS), PreV L v by' anc s → unseen s ≤ k → ∃ seg nb, VS L v by' anc s (visB L k v by' s) seg nb := by
 intro k
 induction k with
 | zero =>
  intro v by' anc s hp hu
  have := (enterB_ok hp.ok hp.hv hp.h0).2
  omega
 | succ k ih =>
  intro v by' anc s hp hu
  have key : ∀ i, i ≤ (atV L v).length → ∃ seg nb, Md L v by' anc s i (((atV L v).take i).foldl (stepB L (visB L k) v by') (enterB v s)) seg nb := by
   intro i
   induction i with
   | zero => intro _; exact ⟨[], [], Md.zero hp⟩
   | succ i ihi =>
    intro hi
    obtain ⟨seg, nb, h⟩ := ihi (by omega)
    have hi' : i < (atV L v).length := by omega
    rw [List.take_succ_eq_append_getElem hi', List.foldl_append]
    simp only [List.foldl_cons, List.foldl_nil]
    generalize ((atV L v).take i).foldl (stepB L (visB L k) v by') (enterB v s) = si at *
    generalize he : (atV L v)[i] = e
    have hm : e ∈ atV L v := by rw [← he]; exact List.getElem_mem hi'
    obtain ⟨hn, htv⟩ := atV_iff.1 hm
    obtain ⟨ht, hne⟩ := oth_tch hn htv
    have hw12 := other_lt hL hm
    have hsv := h.fd.sv
    unfold stepB
    simp only
    generalize hw : (edL L e).1 + (edL L e).2 - v = w at *
    split
    ·rename_i hb
     exact ⟨seg, nb, h.skip hi' he (.inr (.inr hb))⟩
    rename_i hb
    split
    ·rename_i h0
     have hpc := h.prec hp hn htv ht hne hw12 h0
     have htm : s.time + 1 ≤ si.time := by rw [← hsv]; exact getD_le h.fd.ok.sb
     obtain ⟨seg2, nb2, h2⟩ := ih w (e : Int) _ (pushB e si) hpc (by
      have a1 := h.fd.ok.tm
      have a2 := hp.ok.tm
      show unseen si ≤ k
      omega)
     exact h.child hp hi' he hb ht hne hw12 h0 h2
    split
    ·rename_i h0 hlt
     have hlt' : sn si w < sn si v := hlt
     have ha : anc w := by
      refine Classical.byContradiction fun hna => ?_
      by_cases h1 : sn s w = 0
      ·have := h.fd.new w h1 h0 hne
       omega
      ·exact hp.fin e hn w v ht htv h1 hna hp.h0
     exact ⟨seg ++ [e], nb, h.back hp hi' he hb ha ht⟩
    ·rename_i h0 hlt
     have hlt' : ¬ sn si w < sn si v := hlt
     have h1 : sn s w = 0 := by
      refine Classical.byContradiction fun h1 => ?_
      have := h.fd.keep w h1
      have h3 := hp.le w
      omega
     rcases h.cov e hn w h1 h0 hne ht with q | q
     ·exact ⟨seg, nb, h.skip hi' he (.inl q)⟩
     ·exact ⟨seg, nb, h.skip hi' he (.inr (.inl q))⟩
  obtain ⟨seg, nb, h⟩ := key _ (Nat.le_refl _)
  have h' := h.done
  rw [List.take_length] at h'
  exact ⟨seg, nb, h'⟩
structure AllF (L : List (Nat × Nat)) (i : Nat) (s : BS) (nb : List (List Nat)) : Prop where
 ok : BOK L.length s
 opn : s.opn = []
 out : s.out = loopsB L ++ nb
 fin : ∀ e, NL L e → ∀ x z, tch L e x → tch L e z → sn s x ≠ 0 → sn s z ≠ 0
 cov : ∀ e, NL L e → ∀ x, tch L e x → sn s x ≠ 0 → e ∈ nb.flatten
 nbn : ∀ B, B ∈ nb → ∀ e, e ∈ B → NL L e ∧ ∀ x, tch L e x → sn s x ≠ 0
 nbr : ∀ B, B ∈ nb → B ≠ [] ∧ ∀ e, e ∈ B → ∀ f, f ∈ B → Rel L e f
 nbs : ∀ B, B ∈ nb → B.Pairwise (· < ·)
 nd : nb.flatten.Nodup
 peel : Peel L nb
 done : ∀ v, v < i → sn s v ≠ 0
theorem startB_seen (L : List (Nat × Nat)) (x : Nat) : sn (startB L) x = 0 := by
 show (List.replicate 12 0).getD x 0 = 0
 rw [List.getD_eq_getElem?_getD, List.getElem?_replicate]
 split <;> rfl
theorem startB_bok (L : List (Nat × Nat)) : BOK L.length (startB L) := by
 refine ⟨by simp [startB], by simp [startB], by simp [startB, unseen], ?_, ?_, by simp [startB]⟩
 ·intro x hx; simp [startB] at hx; omega
 ·intro x hx; simp [startB] at hx; omega
theorem allB_found {L : List (Nat × Nat)} (hL : ∀ p, p ∈ L → p.1 < 12 ∧ p.2 < 12) : ∀ n, n ≤ 12 → ∃ nb, AllF L n (allB' L n) nb := by
 intro n
 induction n with
 | zero =>
  intro _
  refine ⟨[], startB_bok L, rfl, by show loopsB L = _; simp, fun e _ x z _ _ h => absurd (startB_seen L x) h, fun e _ x _ h => absurd (startB_seen L x) h, by simp, by simp, by simp, by simp, by intro j B h; simp at h, fun v h => by omega⟩
 | succ n ih =>
  intro hn
  obtain ⟨nb, h⟩ := ih (by omega)
  have hs : allB' L (n + 1) = if (allB' L n).seen.getD n 0 = 0 then visB L 12 n (-1) (allB' L n) else allB' L n := by
   unfold allB'
   rw [List.range_succ, List.foldl_append]
   rfl
  rw [hs]
  generalize allB' L n = s at *
  split
  ·rename_i h0
   have hp : PreV L n (-1) (fun _ => False) s := ⟨h.ok, by omega, h0, fun y hy => hy.elim, fun e he x z hx hz hsx _ => h.fin e he x z hx hz hsx, fun y hy => hy.elim, fun e he => by omega, fun y hy => hy.elim⟩
   obtain ⟨seg, nb2, fd, cov⟩ := visB_found hL 12 n (-1) _ s hp (by have := h.ok.tm; omega)
   have hseg : seg = [] := by
    cases seg with
    | nil => rfl
    | cons e l => have := (fd.segr e (by simp)).1; omega
   subst hseg
   generalize visB L 12 n (-1) s = s' at *
   have up : ∀ x, sn s x ≠ 0 → sn s' x ≠ 0 := fun x hx => by rw [fd.keep x hx]; exact hx
   have cov' : ∀ e, NL L e → ∀ x, tch L e x → sn s' x ≠ 0 → e ∈ (nb ++ nb2).flatten := fun e he x hx hsx => by
    rw [List.flatten_append]
    by_cases h1 : sn s x = 0
    ·rcases cov e he x h1 hsx hx with q | q | q
     ·simp at q
     ·exact List.mem_append_right _ q
     ·omega
    ·exact List.mem_append_left _ (h.cov e he x hx h1)
   have nbn' : ∀ B, B ∈ nb ++ nb2 → ∀ e, e ∈ B → NL L e ∧ ∀ x, tch L e x → sn s' x ≠ 0 := fun B hB e he => by
    rcases List.mem_append.1 hB with hB | hB
    ·exact ⟨(h.nbn B hB e he).1, fun x hx => up x ((h.nbn B hB e he).2 x hx)⟩
    ·exact ⟨(fd.nbn B hB e he).1, fun x hx => (fd.nbi B hB e he x hx).2⟩
   refine ⟨nb ++ nb2, fd.ok, by rw [fd.opn, h.opn]; rfl, by rw [fd.out, h.out]; simp, fun e he x z hx hz hsx => ?_, cov', nbn', fun B hB => ?_, fun B hB => ?_, ?_, Peel.app h.peel fd.peel, fun v hv => ?_⟩
   ·obtain ⟨B, hB, heB⟩ := List.mem_flatten.1 (cov' e he x hx hsx)
    exact (nbn' B hB e heB).2 z hz
   ·rcases List.mem_append.1 hB with hB | hB
    ·exact h.nbr B hB
    ·exact fd.nbr B hB
   ·rcases List.mem_append.1 hB with hB | hB
    ·exact h.nbs B hB
    ·exact fd.nbs B hB
   ·rw [List.flatten_append, List.nodup_append]
    refine ⟨h.nd, by have := fd.nd; simpa using this, fun x hx y hy e => ?_⟩
    subst e
    obtain ⟨B, hB, heB⟩ := List.mem_flatten.1 hx
    obtain ⟨B', hB', heB'⟩ := List.mem_flatten.1 hy
    obtain ⟨q1, q2, z, q3, q4⟩ := fd.nbn B' hB' x heB'
    exact (h.nbn B hB x heB).2 z q4 q3.1
   ·by_cases e : v = n
    ·subst e; rw [fd.sv]; omega
    ·exact up v (h.done v (by omega))
  ·rename_i h0
   refine ⟨nb, { h with done := fun v hv => ?_ }⟩
   by_cases e : v = n
   ·subst e; exact h0
   ·exact h.done v (by omega)
structure BlkF (L : List (Nat × Nat)) (nb : List (List Nat)) : Prop where
 mem : ∀ e, e ∈ nb.flatten ↔ NL L e
 ne : ∀ B, B ∈ nb → B ≠ []
 srt : ∀ B, B ∈ nb → B.Pairwise (· < ·)
 rel : ∀ B, B ∈ nb → ∀ e, e ∈ B → ∀ f, f ∈ B → Rel L e f
 nd : nb.flatten.Nodup
 peel : Peel L nb
theorem blkF {L : List (Nat × Nat)} {n : Nat} (hn : n ≤ 12) (hL : ∀ p, p ∈ L → p.1 < n ∧ p.2 < n) : ∃ nb, (allB' L n).out = loopsB L ++ nb ∧ BlkF L nb := by
 obtain ⟨nb, h⟩ := allB_found (fun p hp => ⟨by have := (hL p hp).1; omega, by have := (hL p hp).2; omega⟩ : ∀ p, p ∈ L → p.1 < 12 ∧ p.2 < 12) n hn
 refine ⟨nb, h.out, fun e => ⟨fun he => ?_, fun he => ?_⟩, fun B hB => (h.nbr B hB).1, h.nbs, fun B hB => (h.nbr B hB).2, h.nd, h.peel⟩
 ·obtain ⟨B, hB, heB⟩ := List.mem_flatten.1 he
  exact (h.nbn B hB e heB).1
 ·have hlt : (edL L e).1 < n := by
   have hm : edL L e ∈ L := by
    unfold edL; rw [List.getD_eq_getElem?_getD, List.getElem?_eq_getElem he.1]; exact List.getElem_mem he.1
   exact (hL _ hm).1
  exact h.cov e he _ (.inl rfl) (h.done _ hlt)
theorem flat_inj {nb : List (List Nat)} (h : nb.flatten.Nodup) {e : Nat} : ∀ {B B' : List Nat}, B ∈ nb → B' ∈ nb → e ∈ B → e ∈ B' → B = B' := by
 induction nb with
 | nil => intro B B' h1; simp at h1
 | cons C nb ih =>
  intro B B' h1 h2 h3 h4
  rw [List.flatten_cons, List.nodup_append] at h
  obtain ⟨_, g1, g2⟩ := h
  rcases List.mem_cons.1 h1 with rfl | m1 <;> rcases List.mem_cons.1 h2 with rfl | m2
  ·rfl
  ·exact absurd rfl (g2 e h3 e (List.mem_flatten.2 ⟨B', m2, h4⟩))
  ·exact absurd rfl (g2 e h4 e (List.mem_flatten.2 ⟨B, m1, h3⟩))
  ·exact ih g1 m1 m2 h3 h4
theorem Circ.loop {L : List (Nat × Nat)} {C : Nat → Bool} (h : Circ L C) {e : Nat} (he : C e = true) (hl : (edL L e).1 = (edL L e).2) : ∀ f, C f = true → f = e := fun f hf => by
 have := h.mn (oneA e) (fun x hx => by simp [oneA] at hx; subst hx; exact he) (fun S => by
  rw [cross_one L (h.sup e he)]; unfold crs; rw [hl]; cases S (edL L e).2 <;> rfl) ⟨e, by simp [oneA]⟩ f hf
 simpa [oneA] using this
theorem Circ.nl {L : List (Nat × Nat)} {C : Nat → Bool} (h : Circ L C) {e f : Nat} (he : C e = true) (hn : NL L e) (hf : C f = true) : NL L f := by
 refine ⟨h.sup f hf, fun hl => ?_⟩
 have := h.loop hf hl e he
 subst this
 exact hn.2 hl
theorem cross_congr {L : List (Nat × Nat)} {A S T : Nat → Bool} (h : ∀ e, A e = true → ∀ x, tch L e x → S x = T x) : cross L A S = cross L A T := by
 unfold cross
 refine xsb_congr fun e _ => ?_
 cases ha : A e with
 | false => rfl
 | true => unfold crs; rw [h e ha _ (.inl rfl), h e ha _ (.inr rfl)]
theorem cross_none {L : List (Nat × Nat)} {A S : Nat → Bool} (h : ∀ e, A e = true → ∀ x, tch L e x → S x = false) : cross L A S = false := by
 rw [cross_congr (T := fun _ => false) h]
 unfold cross
 refine (xsb_congr (g := fun _ => false) fun e _ => ?_).trans (xsb_false L.length)
 unfold crs; cases A e <;> rfl
theorem cross_not (L : List (Nat × Nat)) (A S : Nat → Bool) : cross L A (fun x => !S x) = cross L A S := by
 unfold cross
 refine xsb_congr fun e _ => ?_
 unfold crs
 simp only
 cases A e <;> cases S (edL L e).1 <;> cases S (edL L e).2 <;> rfl
section
variable {L : List (Nat × Nat)} {nb : List (List Nat)}
open Classical in
theorem even_part {C : Nat → Bool} (hc : Circ L C) {B : List Nat} {a : Nat} (h : ∀ x f g, C f = true → f ∈ B → tch L f x → C g = true → g ∉ B → tch L g x → x = a) : EvenA L (fun e => C e && decide (e ∈ B)) := by
 have main : ∀ S : Nat → Bool, S a = false → cross L (fun e => C e && decide (e ∈ B)) S = false := fun S hS => by
  let S' : Nat → Bool := fun x => S x && decide (∃ f, C f = true ∧ f ∈ B ∧ tch L f x)
  have e1 : cross L (fun e => C e && decide (e ∈ B)) S = cross L (fun e => C e && decide (e ∈ B)) S' := cross_congr fun f hf x hx => by
   simp only [Bool.and_eq_true, decide_eq_true_eq] at hf
   have : decide (∃ f, C f = true ∧ f ∈ B ∧ tch L f x) = true := decide_eq_true ⟨f, hf.1, hf.2, hx⟩
   show S x = (S x && decide (∃ f, C f = true ∧ f ∈ B ∧ tch L f x))
   rw [this]; simp
  have e2 : cross L (fun e => C e && !decide (e ∈ B)) S' = false := cross_none fun g hg x hx => by
   simp only [Bool.and_eq_true, Bool.not_eq_true', decide_eq_false_iff_not] at hg
   show (S x && decide (∃ f, C f = true ∧ f ∈ B ∧ tch L f x)) = false
   by_cases q : ∃ f, C f = true ∧ f ∈ B ∧ tch L f x
   ·obtain ⟨f, q1, q2, q3⟩ := q
    rw [h x f g q1 q2 q3 hg.1 hg.2 hx, hS]; rfl
   ·rw [decide_eq_false q]; simp
  have e3 := cross_xor L (fun e => C e && decide (e ∈ B)) (fun e => C e && !decide (e ∈ B)) S'
  have e4 : xorA (fun e => C e && decide (e ∈ B)) (fun e => C e && !decide (e ∈ B)) = C := by
   funext e
   show xor (C e && decide (e ∈ B)) (C e && !decide (e ∈ B)) = C e
   cases C e <;> cases decide (e ∈ B) <;> rfl
  rw [e4, hc.ev S', e2] at e3
  rw [e1]
  cases hx : cross L (fun e => C e && decide (e ∈ B)) S' with
  | false => rfl
  | true => rw [hx] at e3; cases e3
 intro S
 cases hS : S a with
 | false => exact main S hS
 | true => rw [← cross_not]; exact main _ (by simp [hS])
theorem BlkF.circ (h : BlkF L nb) {C : Nat → Bool} (hc : Circ L C) {e : Nat} (he : C e = true) (hn : NL L e) : ∃ B, B ∈ nb ∧ ∀ f, C f = true → f ∈ B := by
 have key : ∀ k : Nat, (∃ (j : Nat) (B : List Nat) (f : Nat), j < k ∧ nb[j]? = some B ∧ C f = true ∧ f ∈ B) → ∃ (j : Nat) (B : List Nat) (f : Nat), nb[j]? = some B ∧ C f = true ∧ f ∈ B ∧ ∀ i B' g, i < j → nb[i]? = some B' → C g = true → g ∉ B' := by
  intro k
  induction k with
  | zero => rintro ⟨j, B, f, hj, _⟩; omega
  | succ k ih =>
   rintro ⟨j, B, f, hj, h1, h2, h3⟩
   by_cases q : ∃ (j : Nat) (B : List Nat) (f : Nat), j < k ∧ nb[j]? = some B ∧ C f = true ∧ f ∈ B
   ·exact ih q
   ·have hjk : j = k := Classical.byContradiction fun x => q ⟨j, B, f, by omega, h1, h2, h3⟩
    subst hjk
    exact ⟨j, B, f, h1, h2, h3, fun i B' g q1 q2 q3 q4 => q ⟨i, B', g, q1, q2, q3, q4⟩⟩
 obtain ⟨B0, hB0, heB0⟩ := List.mem_flatten.1 ((h.mem e).2 hn)
 obtain ⟨j0, hj0⟩ := List.mem_iff_getElem?.1 hB0
 obtain ⟨j, B, f, h1, h2, h3, h4⟩ := key (j0 + 1) ⟨j0, B0, e, by omega, hj0, he, heB0⟩
 refine ⟨B, List.mem_of_getElem? h1, ?_⟩
 obtain ⟨a, ha⟩ := h.peel j B h1
 have hev := even_part hc (B := B) (a := a) (fun x f' g q1 q2 q3 q4 q5 q6 => ha x f' g q2 q3 (hc.nl he hn q4) (fun hm => by
  obtain ⟨B', hB', hg⟩ := List.mem_flatten.1 hm
  obtain ⟨i, hi⟩ := List.mem_iff_getElem?.1 hB'
  have hi2 := (List.getElem?_eq_some_iff.1 hi).1
  rw [List.length_take] at hi2
  rw [List.getElem?_take_of_lt (by omega)] at hi
  by_cases e : i = j
  ·subst e; rw [h1] at hi; cases hi; exact q5 hg
  ·exact h4 i B' g (by omega) hi q4 hg) q6)
 intro g hg
 have := hc.mn _ (fun x hx => by simp only [Bool.and_eq_true] at hx; exact hx.1) hev ⟨f, by simp [h2, h3]⟩ g hg
 simpa [hg] using this
theorem BlkF.cls (h : BlkF L nb) {B : List Nat} (hB : B ∈ nb) {e : Nat} (he : e ∈ B) (f : Nat) : f ∈ B ↔ Rel L e f := by
 refine ⟨fun hf => h.rel B hB e he f hf, fun hr => ?_⟩
 rcases hr with rfl | ⟨C, h1, h2, h3⟩
 ·exact he
 ·have hn := (h.mem e).1 (List.mem_flatten.2 ⟨B, hB, he⟩)
  obtain ⟨B', b1, b2⟩ := h.circ h1 h2 hn
  rw [flat_inj h.nd hB b1 he (b2 e h2)]
  exact b2 f h3
end
theorem loopsB_mem {L : List (Nat × Nat)} {B : List Nat} : B ∈ loopsB L ↔ ∃ e, B = [e] ∧ e < L.length ∧ (edL L e).1 = (edL L e).2 := by
 unfold loopsB
 simp only [List.mem_map, List.mem_filter, List.mem_range, decide_eq_true_eq]
 constructor
 ·rintro ⟨e, ⟨h1, h2⟩, rfl⟩; exact ⟨e, rfl, h1, h2⟩
 ·rintro ⟨e, rfl, h1, h2⟩; exact ⟨e, ⟨h1, h2⟩, rfl⟩
theorem outB_mem {L : List (Nat × Nat)} {n : Nat} (hn : n ≤ 12) (hL : ∀ p, p ∈ L → p.1 < n ∧ p.2 < n) {B : List Nat} (hB : B ∈ (allB' L n).out) : B ≠ [] ∧ (∀ e, e ∈ B → e < L.length) ∧ B.Pairwise (· < ·) := by
 obtain ⟨nb, h1, h2⟩ := blkF hn hL
 rw [h1] at hB
 rcases List.mem_append.1 hB with hB | hB
 ·obtain ⟨e, rfl, h3, _⟩ := loopsB_mem.1 hB
  exact ⟨by simp, by simpa using h3, by simp⟩
 ·exact ⟨h2.ne B hB, fun e he => ((h2.mem e).1 (List.mem_flatten.2 ⟨B, hB, he⟩)).1, h2.srt B hB⟩
theorem sorted_len {m : Nat} {l : List Nat} (h1 : l.Pairwise (· < ·)) (h2 : ∀ x, x ∈ l → x < m) : l.length ≤ m := by
 have hnd : l.Nodup := h1.imp fun h => by omega
 have := List.Nodup.length_le_of_subset hnd (l₂ := List.range m) (fun j hj => by simpa using h2 j hj)
 simpa using this
theorem flatten_le : ∀ {l : List (List Nat)}, (∀ B, B ∈ l → B ≠ []) → l.length ≤ l.flatten.length
 | [], _ => by simp
 | B :: l, h => by
  have := flatten_le (l := l) fun C hC => h C (by simp [hC])
  have h1 := List.length_pos_iff.2 (h B (by simp))
  rw [List.flatten_cons, List.length_append, List.length_cons]; omega
theorem outB_len {L : List (Nat × Nat)} {n : Nat} (hn : n ≤ 12) (hL : ∀ p, p ∈ L → p.1 < n ∧ p.2 < n) : (allB' L n).out.length ≤ 2 * L.length := by
 obtain ⟨nb, h1, h2⟩ := blkF hn hL
 rw [h1, List.length_append]
 have a1 : (loopsB L).length ≤ L.length := by
  unfold loopsB; rw [List.length_map]; exact Nat.le_trans (List.length_filter_le _ _) (by simp)
 have a2 := flatten_le h2.ne
 have a3 := List.Nodup.length_le_of_subset h2.nd (l₂ := List.range L.length) (fun j hj => by simpa using ((h2.mem j).1 hj).1)
 rw [List.length_range] at a3; omega
end Go.Proofs.Ytgklecfiflhjmaa
namespace Go.Proofs.Ytgklecfiflhjmaa
open Go.Sp Go.RowKit
open Go.Sort (SWO)
def mnL (L : List (Int × Int)) (a : Nat) : Int := min (L.getD a (0, 0)).1 (L.getD a (0, 0)).2
def mxL (L : List (Int × Int)) (a : Nat) : Int := max (L.getD a (0, 0)).1 (L.getD a (0, 0)).2
def ltN (L : List (Int × Int)) (a b : Nat) : Prop := mnL L a < mnL L b ∨ (mnL L a = mnL L b ∧ (mxL L a < mxL L b ∨ (mxL L a = mxL L b ∧ a < b)))
instance ltN.dec (L : List (Int × Int)) (a b : Nat) : Decidable (ltN L a b) := by unfold ltN; infer_instance
end Go.Proofs.Ytgklecfiflhjmaa
namespace Go.Proofs.Ytgklecfiflhjmaa
open Go.Sp
def swapI (l : List Int) : Nat → List Int
 | 0 => l
 | i + 1 => ((swapI l i).set i ((swapI l i)[l.length - 1 - i]?.getD 0)).set (l.length - 1 - i) ((swapI l i)[i]?.getD 0)
@[simp] theorem swapI_zero (l : List Int) : swapI l 0 = l := rfl
@[simp] theorem take_pre (pre : List Blk) (X : Blk) : (pre ++ [X]).take (pre.length + 1) = pre ++ [X] := List.take_of_length_le (by simp)
def cntL : List E → Int → Int → Int
 | [], _, _ => 0
 | x :: xs, a, b => if x.a = a ∧ x.b = b then x.m else cntL xs a b
def bagPut : List E → Int → Int → Int → List E
 | [], a, b, m => [⟨a, b, m⟩]
 | x :: xs, a, b, m => if x.a = a ∧ x.b = b then ⟨a, b, m⟩ :: xs else x :: bagPut xs a b m
def bagStep (es : List E) (p : Int × Int) : List E := bagPut es (min p.1 p.2) (max p.1 p.2) (cntL es (min p.1 p.2) (max p.1 p.2) + 1)
def bagL (l : List (Int × Int)) : List E := l.foldl bagStep []
theorem mStamp_lt (es : List (MKey × MV)) (k : MKey) (z : MV) : mStamp es k < (mAdd es k z).length := by
 unfold mStamp mAdd mHas
 cases h : mIdx es k with
 | none => simp
 | some i =>
  obtain ⟨v, hv⟩ := mIdx_some h
  have := (List.getElem?_eq_some_iff.1 hv).1
  simpa using this
theorem bagL_snoc (l : List (Int × Int)) (p : Int × Int) : bagL (l ++ [p]) = bagStep (bagL l) p := by simp [bagL]
theorem bagPut_mem {es : List E} {a b m : Int} {e : E} (h : e ∈ bagPut es a b m) : e ∈ es ∨ e = ⟨a, b, m⟩ := by
 induction es with
 | nil => simp [bagPut] at h; exact .inr h
 | cons x xs ih =>
  simp only [bagPut] at h
  split at h
  ·rcases List.mem_cons.1 h with h | h
   ·exact .inr h
   ·exact .inl (by simp [h])
  ·rcases List.mem_cons.1 h with h | h
   ·exact .inl (by simp [h])
   ·rcases ih h with h | h
    ·exact .inl (by simp [h])
    ·exact .inr h
theorem bagPut_distinct {es : List E} {a b m : Int} (h : distinctE es) : distinctE (bagPut es a b m) := by
 induction es with
 | nil => simp [bagPut, distinctE]
 | cons x xs ih =>
  unfold distinctE at *
  rw [List.pairwise_cons] at h
  simp only [bagPut]
  split
  ·rename_i hx
   refine List.pairwise_cons.2 ⟨fun y hy => ?_, h.2⟩
   have := h.1 y hy
   unfold neE at *; simp only; omega
  ·rename_i hx
   refine List.pairwise_cons.2 ⟨fun y hy => ?_, ih h.2⟩
   rcases bagPut_mem hy with hy | hy
   ·exact h.1 y hy
   ·subst hy; unfold neE; simp only; omega
theorem bagPut_len (es : List E) (a b m : Int) : (bagPut es a b m).length ≤ es.length + 1 := by
 induction es with
 | nil => simp [bagPut]
 | cons x xs ih => simp only [bagPut]; split <;> simp <;> omega
theorem cntL_le {es : List E} {a b k : Int} (h : ∀ e, e ∈ es → e.m ≤ k) (hk : 0 ≤ k) : cntL es a b ≤ k := by
 induction es with
 | nil => simpa [cntL] using hk
 | cons x xs ih => simp only [cntL]; split; exact h x (by simp); exact ih fun e he => h e (by simp [he])
theorem cntL_ge {es : List E} {a b : Int} (h : ∀ e, e ∈ es → 1 ≤ e.m) : 0 ≤ cntL es a b := by
 induction es with
 | nil => simp [cntL]
 | cons x xs ih => simp only [cntL]; split; have := h x (by simp); omega; exact ih fun e he => h e (by simp [he])
structure BagOk (n : Int) (k : Nat) (es : List E) : Prop where
 d : distinctE es
 len : es.length ≤ k
 m : ∀ e, e ∈ es → 1 ≤ e.m ∧ e.m ≤ k
 r : ∀ e, e ∈ es → 0 ≤ e.a ∧ e.a ≤ e.b ∧ e.b < n
theorem bag_step {n : Int} {k : Nat} {es : List E} (h : BagOk n k es) {p : Int × Int} (h1 : 0 ≤ p.1 ∧ p.1 < n) (h2 : 0 ≤ p.2 ∧ p.2 < n) : BagOk n (k + 1) (bagStep es p) := by
 have c1 := cntL_le (a := min p.1 p.2) (b := max p.1 p.2) (k := k) (fun e he => (h.m e he).2) (by omega)
 have c2 := cntL_ge (a := min p.1 p.2) (b := max p.1 p.2) (fun e he => (h.m e he).1)
 refine ⟨bagPut_distinct h.d, Nat.le_trans (bagPut_len ..) (by have := h.len; omega), fun e he => ?_, fun e he => ?_⟩
 ·rcases bagPut_mem he with he | rfl
  ·have := h.m e he; omega
  ·simp only; omega
 ·rcases bagPut_mem he with he | rfl
  ·exact h.r e he
  ·simp only; omega
open Classical in
noncomputable def makeE (n : Int) (l : List (Int × Int)) : G × Int :=
 if n < 1 ∨ 12 < n then (⟨0, []⟩, 2) else if 4096 < l.length then (⟨0, []⟩, 5)
 else if ∃ p, p ∈ l ∧ ¬ ((0 ≤ p.1 ∧ p.1 < n) ∧ (0 ≤ p.2 ∧ p.2 < n)) then (⟨0, []⟩, 2)
 else if ∃ e, e ∈ bagL l ∧ 50 < e.m then (⟨0, []⟩, 5) else (⟨n, sortE (bagL l)⟩, 0)
end Go.Proofs.Ytgklecfiflhjmaa
namespace Go.Proofs.Ytgklecfiflhjmaa
open Go.Sp
@[simp] theorem chJ_halves (L : List (Int × Int)) (n k : Nat) : (chJ (halvesL L n k)).take n = chJ (halvesL L n k) := chJ_take (by rw [halvesL_len]; exact Nat.le_refl _)
def facesR (r : R) : List (List Nat) := if (endsL r.es).length = 0 then [[]] else facesN (fR (endsL r.es) r.ar) (2 * (endsL r.es).length) (2 * (endsL r.es).length)
end Go.Proofs.Ytgklecfiflhjmaa
