/- A part of the proof: contracts of functions of the program, or plain lemmas. -/
import Derived.Test.YtbdpkgckdkpepaaG50
import Derived.Test.YtbdpkgckdkpepaaG31
set_option linter.all false
namespace Go.Proofs.Ytbdpkgckdkpepaa
open Go.Sp
set_option linter.unusedSimpArgs false
set_option linter.unusedVariables false
def SameP (l P : List (Int × Int)) : Prop := P.length = l.length ∧ ∀ f : Int × Int → Bool, (∀ p, f (p.2, p.1) = f p) → P.countP f = l.countP f
theorem SameP.refl (l : List (Int × Int)) : SameP l l := ⟨rfl, fun _ _ => rfl⟩
theorem SameP.turn {l P : List (Int × Int)} (h : SameP l P) {i : Nat} {p : Int × Int} (hp : P[i]? = some p) : SameP l (P.set i (p.2, p.1)) := by
  obtain ⟨hi, rfl⟩ := List.getElem?_eq_some_iff.1 hp
  refine ⟨by rw [List.length_set]; exact h.1, fun f hf => ?_⟩
  rw [← h.2 f hf, List.set_eq_take_append_cons_drop, if_pos hi]
  conv => rhs; rw [← List.take_append_drop i P, List.drop_eq_getElem_cons hi]
  simp only [List.countP_append, List.countP_cons, hf]
theorem SameP.rev {l P : List (Int × Int)} (h : SameP l P) : SameP l P.reverse :=
  ⟨by rw [List.length_reverse]; exact h.1, fun f hf => by rw [(List.reverse_perm P).countP_eq]; exact h.2 f hf⟩
def isP (a b : Int) (p : Int × Int) : Bool := decide (min p.1 p.2 = a ∧ max p.1 p.2 = b)
theorem isP_turn (a b : Int) (p : Int × Int) : isP a b (p.2, p.1) = isP a b p := by
  unfold isP; simp only [Int.min_comm, Int.max_comm]
theorem cntL_bag (l : List (Int × Int)) (a b : Int) : ∀ k, k ≤ l.length → cntL (bagL (l.take k)) a b = ((l.take k).countP (isP a b) : Int) := by
  intro k
  induction k with
  | zero => intro _; rfl
  | succ k ih =>
    intro hk
    have e0 := List.getElem?_eq_getElem (l := l) (i := k) (by omega)
    rw [take_snoc e0, bagL_snoc, bagStep, cntL_put, List.countP_append, List.countP_cons, List.countP_nil]
    have ih := ih (by omega)
    by_cases h : a = min l[k].1 l[k].2 ∧ b = max l[k].1 l[k].2
    · rw [if_pos h, ← h.1, ← h.2, ih, if_pos (by unfold isP; simp [h.1, h.2])]; omega
    · rw [if_neg h, ih, if_neg (by unfold isP; simp only [decide_eq_true_eq]; omega)]; omega
theorem cnt_ends {es : List E} (hs : es.Pairwise ltE) (hr : ∀ e, e ∈ es → e.a ≤ e.b ∧ 1 ≤ e.m) (a b : Int) : ((endsL es).countP (isP a b) : Int) = cntL es a b := by
  induction es with
  | nil => rfl
  | cons x xs ih =>
    have hp := List.pairwise_cons.1 hs
    have hx := hr x (by simp)
    have ih := ih hp.2 fun e he => hr e (by simp [he])
    have e : endsL (x :: xs) = endsL [x] ++ endsL xs := by rw [← endsL_append]; rfl
    rw [e, endsL_one, List.countP_append, List.countP_replicate]
    simp only [cntL]
    by_cases h : x.a = a ∧ x.b = b
    · have h0 : cntL xs a b = 0 := by
        by_cases h0 : cntL xs a b = 0
        · exact h0
        · have := hp.1 _ (mem_of_cntL h0)
          unfold ltE at this; simp only at this; omega
      rw [if_pos h, if_pos (by unfold isP; simp only [decide_eq_true_eq]; omega)]
      omega
    · rw [if_neg h, if_neg (by unfold isP; simp only [decide_eq_true_eq]; omega)]
      omega
theorem bag_ok {n : Int} {l : List (Int × Int)} (h : ∀ p, p ∈ l → okP n p) : ∀ k, k ≤ l.length → BagOk n k (bagL (l.take k)) := by
  intro k
  induction k with
  | zero => intro _; exact ⟨List.Pairwise.nil, by simp [bagL], by simp [bagL], by simp [bagL]⟩
  | succ k ih =>
    intro hk
    have e0 := List.getElem?_eq_getElem (l := l) (i := k) (by omega)
    have ho := h _ (List.getElem_mem (by omega : k < l.length))
    rw [take_snoc e0, bagL_snoc]
    exact bag_step (ih (by omega)) ho.1 ho.2
instance (n : Int) (p : Int × Int) : Decidable (okP n p) := by unfold okP; infer_instance
theorem remake {g : G} {n : Nat} (h : RightG g n) {P : List (Int × Int)} (hP : SameP (endsL g.es) P) : makeE g.n P = (g, 0) := by
  obtain ⟨h1, h2, h3⟩ := checkG_zero.1 h.c
  have hok : ∀ p, p ∈ P → okP g.n p := by
    have hf : ∀ p : Int × Int, decide (okP g.n (p.2, p.1)) = decide (okP g.n p) := fun p => by
      rw [decide_eq_decide]; unfold okP; simp only; omega
    have hl : (endsL g.es).countP (fun p => decide (okP g.n p)) = (endsL g.es).length := by
      rw [List.countP_eq_length]
      intro p hp
      obtain ⟨e, he, hpe⟩ := List.mem_flatMap.1 hp
      obtain ⟨-, rfl⟩ := List.mem_replicate.1 hpe
      have := h2 e he
      unfold okE at this
      simp only [decide_eq_true_eq]; unfold okP; simp only; omega
    have hc := hP.2 (fun p => decide (okP g.n p)) hf
    rw [hl, ← hP.1, List.countP_eq_length] at hc
    intro p hp
    simpa using hc p hp
  have hb := bag_ok hok P.length (Nat.le_refl _)
  have hcnt : ∀ a b, cntL (bagL P) a b = cntL g.es a b := fun a b => by
    have e := cntL_bag P a b P.length (Nat.le_refl _)
    rw [List.take_length] at e
    rw [e, hP.2 _ (isP_turn a b), cnt_ends h3 (fun e he => by have := h2 e he; unfold okE at this; omega)]
  rw [List.take_length] at hb
  have hmem : ∀ x, x ∈ bagL P ↔ x ∈ g.es := fun x => by
    constructor
    · intro hx
      have e := cntL_of_mem hb.d hx
      have := hb.m x hx
      rw [hcnt] at e
      have := mem_of_cntL (es := g.es) (a := x.a) (b := x.b) (by omega)
      rw [e] at this; exact this
    · intro hx
      have e := cntL_of_mem (distinct_of h3) hx
      have := h2 x hx
      unfold okE at this
      rw [← hcnt] at e
      have := mem_of_cntL (es := bagL P) (a := x.a) (b := x.b) (by omega)
      rw [e] at this; exact this
  have hsort : sortE (bagL P) = g.es := by
    refine sorted_unique (sortE_sorted hb.d) h3 ((List.perm_ext_iff_of_nodup (lt_nodup (sortE_sorted hb.d)) (lt_nodup h3)).2 fun x => ?_)
    rw [(sortE_perm (bagL P)).mem_iff, hmem]
  have hlen := hP.1
  have := h.s
  unfold makeE
  rw [if_neg (by omega), if_neg (by omega), if_neg (by
    rintro ⟨p, hp, hx⟩
    exact hx (hok p hp)), if_neg (by
    rintro ⟨e, he, hx⟩
    have := h2 e ((hmem e).1 he)
    unfold okE at this; omega), hsort]
end Go.Proofs.Ytbdpkgckdkpepaa
