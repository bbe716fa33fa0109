/- A part of the proof: contracts of functions of the program, or plain lemmas. -/
import Derived.Test.YtbdpkgckdkpepaaG43
import Derived.Test.YtbdpkgckdkpepaaG22
set_option linter.all false
namespace Go.Proofs.Ytbdpkgckdkpepaa
open Go.Sp
set_option linter.unusedSimpArgs false
set_option linter.unusedVariables false
theorem lt_nodup {l : List E} (h : l.Pairwise ltE) : l.Nodup := h.imp fun {a b} h e => by subst e; unfold ltE at h; omega
theorem cntL_of_mem {es : List E} (h : distinctE es) {x : E} (hx : x ∈ es) : cntL es x.a x.b = x.m := by
  induction es with
  | nil => cases hx
  | cons y ys ih =>
    have hp := List.pairwise_cons.1 h
    simp only [cntL]
    rcases List.mem_cons.1 hx with rfl | hx
    · rw [if_pos ⟨rfl, rfl⟩]
    · have := hp.1 x hx
      unfold neE at this
      rw [if_neg (by omega), ih hp.2 hx]
theorem mem_of_cntL {es : List E} {a b : Int} (h : cntL es a b ≠ 0) : (⟨a, b, cntL es a b⟩ : E) ∈ es := by
  induction es with
  | nil => simp [cntL] at h
  | cons y ys ih =>
    simp only [cntL] at h ⊢
    by_cases hy : y.a = a ∧ y.b = b
    · rw [if_pos hy]
      obtain ⟨ya, yb, ym⟩ := y
      simp only at hy
      obtain ⟨rfl, rfl⟩ := hy
      simp
    · rw [if_neg hy] at h ⊢
      exact List.mem_cons_of_mem _ (ih h)
end Go.Proofs.Ytbdpkgckdkpepaa
