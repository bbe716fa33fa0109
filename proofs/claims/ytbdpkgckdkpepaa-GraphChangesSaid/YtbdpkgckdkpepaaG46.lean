/- A part of the proof: contracts of functions of the program, or plain lemmas. -/
import Derived.Test.YtbdpkgckdkpepaaG43
import Derived.Test.YtbdpkgckdkpepaaG22
set_option linter.all false
namespace Go.Proofs.Ytbdpkgckdkpepaa
open Go.Sp
set_option linter.unusedSimpArgs false
set_option linter.unusedVariables false
theorem rowE_mem {f : Nat → Int} {a b : Nat} {x : E} : x ∈ rowE f a b ↔ ∃ j, j < b ∧ a ≤ j ∧ 0 < f j ∧ x = ⟨a, j, f j⟩ := by
  simp only [rowE, List.mem_filterMap, List.mem_range]
  constructor
  · rintro ⟨j, hj, h⟩
    split at h
    · rename_i hc; cases h; exact ⟨j, hj, hc.1, hc.2, rfl⟩
    · cases h
  · rintro ⟨j, hj, h1, h2, rfl⟩
    exact ⟨j, hj, by rw [if_pos ⟨h1, h2⟩]⟩
theorem joinE_mem {f : Nat → Nat → Int} {n a : Nat} {x : E} : x ∈ joinE f n a ↔ ∃ i j, i < a ∧ j < n ∧ i ≤ j ∧ 0 < f i j ∧ x = ⟨i, j, f i j⟩ := by
  simp only [joinE, List.mem_flatMap, List.mem_range, rowE_mem]
  constructor
  · rintro ⟨i, hi, j, h⟩; exact ⟨i, j, hi, h⟩
  · rintro ⟨i, j, hi, h⟩; exact ⟨i, hi, j, h⟩
theorem rowE_sorted (f : Nat → Int) (a b : Nat) : (rowE f a b).Pairwise ltE := by
  induction b with
  | zero => exact List.Pairwise.nil
  | succ b ih =>
    rw [rowE_succ, List.pairwise_append]
    refine ⟨ih, by split <;> simp, fun x hx y hy => ?_⟩
    obtain ⟨j, hj, h1, h2, rfl⟩ := rowE_mem.1 hx
    split at hy
    · obtain rfl := List.mem_singleton.1 hy
      exact .inr ⟨rfl, Int.ofNat_lt.2 hj⟩
    · simp at hy
theorem joinE_sorted (f : Nat → Nat → Int) (n a : Nat) : (joinE f n a).Pairwise ltE := by
  induction a with
  | zero => exact List.Pairwise.nil
  | succ a ih =>
    rw [joinE_succ, List.pairwise_append]
    refine ⟨ih, rowE_sorted _ _ _, fun x hx y hy => ?_⟩
    obtain ⟨i, j, hi, hj, h1, h2, rfl⟩ := joinE_mem.1 hx
    obtain ⟨j', _, _, _, rfl⟩ := rowE_mem.1 hy
    exact .inl (Int.ofNat_lt.2 hi)
theorem lt_nodup {l : List E} (h : l.Pairwise ltE) : l.Nodup := h.imp fun {a b} h e => by subst e; unfold ltE at h; omega
theorem cntL_of_mem {es : List E} (h : distinctE es) {x : E} (hx : x ∈ es) : cntL es x.a x.b = x.m := by
  induction es with
  | nil => cases hx
  | cons y ys ih =>
    have hp := List.pairwise_cons.1 h
    simp only [cntL]
    rcases List.mem_cons.1 hx with rfl | hx
    · rw [if_pos ⟨rfl, rfl⟩]
    · have := hp.1 x hx
      unfold neE at this
      rw [if_neg (by omega), ih hp.2 hx]
theorem mem_of_cntL {es : List E} {a b : Int} (h : cntL es a b ≠ 0) : (⟨a, b, cntL es a b⟩ : E) ∈ es := by
  induction es with
  | nil => simp [cntL] at h
  | cons y ys ih =>
    simp only [cntL] at h ⊢
    by_cases hy : y.a = a ∧ y.b = b
    · rw [if_pos hy]
      obtain ⟨ya, yb, ym⟩ := y
      simp only at hy
      obtain ⟨rfl, rfl⟩ := hy
      simp
    · rw [if_neg hy] at h ⊢
      exact List.mem_cons_of_mem _ (ih h)
theorem join_cnt {es : List E} {n : Nat} (hs : es.Pairwise ltE) (hr : ∀ e, e ∈ es → 0 ≤ e.a ∧ e.a ≤ e.b ∧ e.b < n ∧ 1 ≤ e.m) : joinE (fun i j => cntL es i j) n n = es := by
  refine sorted_unique (joinE_sorted _ _ _) hs ((List.perm_ext_iff_of_nodup (lt_nodup (joinE_sorted _ _ _)) (lt_nodup hs)).2 fun x => ?_)
  rw [joinE_mem]
  constructor
  · rintro ⟨i, j, hi, hj, hij, hp, rfl⟩
    exact mem_of_cntL (by omega)
  · intro hx
    have := hr x hx
    have hc := cntL_of_mem (distinct_of hs) hx
    refine ⟨x.a.toNat, x.b.toNat, by omega, by omega, by omega, ?_, ?_⟩
    · rw [show ((x.a.toNat : Nat) : Int) = x.a by omega, show ((x.b.toNat : Nat) : Int) = x.b by omega, hc]; omega
    · rw [show ((x.a.toNat : Nat) : Int) = x.a by omega, show ((x.b.toNat : Nat) : Int) = x.b by omega, hc]
theorem join_eq {f : Nat → Nat → Int} {es : List E} {n : Nat} (hs : es.Pairwise ltE) (hr : ∀ e, e ∈ es → 0 ≤ e.a ∧ e.a ≤ e.b ∧ e.b < n ∧ 1 ≤ e.m) (hf : ∀ i j : Nat, i ≤ j → j < n → f i j = cntL es i j) : joinE f n n = es := by
  rw [joinE_congr hf n (Nat.le_refl _), join_cnt hs hr]
theorem cntL_perm {es fs : List E} (hp : es.Perm fs) (hd : distinctE es) (a b : Int) : cntL es a b = cntL fs a b := by
  have hd' : distinctE fs := (List.Perm.pairwise_iff neE.symm hp).1 hd
  by_cases h : cntL es a b = 0
  · by_cases h2 : cntL fs a b = 0
    · rw [h, h2]
    · have := mem_of_cntL h2
      have := cntL_of_mem hd (hp.mem_iff.2 this)
      exact this
  · have := mem_of_cntL h
    exact (cntL_of_mem hd' (hp.mem_iff.1 this)).symm
end Go.Proofs.Ytbdpkgckdkpepaa
