/- A part of the proof: contracts of functions of the program, or plain lemmas. -/
import Derived.Test.YtbdpkgckdkpepaaG42
set_option linter.all false
namespace Go.Proofs.Ytbdpkgckdkpepaa
open Go.Sp
set_option linter.unusedSimpArgs false
set_option linter.unusedVariables false
set_option maxHeartbeats 4000000
set_option maxRecDepth 100000


def tabRows (T : List (List Int)) : List (List Tree) := (T.map fun r => Tree.slice (iRows r)).map fun t => [t]
def tTab (T : List (List Int)) : TVal := .t (.slice (tabRows T))
attribute [go_sem] tTab
def cellT (T : List (List Int)) (a b : Nat) : Int := (T.getD a []).getD b 0
structure Sq (n : Nat) (T : List (List Int)) : Prop where
  len : T.length = n
  row : ∀ r, r ∈ T → r.length = n
theorem Sq.get {n : Nat} {T : List (List Int)} (h : Sq n T) {a b : Nat} (ha : a < n) (hb : b < n) : ∃ r, T[a]? = some r ∧ r.length = n ∧ r[b]? = some (cellT T a b) := by
  have hal : a < T.length := by rw [h.len]; exact ha
  have hrl := h.row _ (List.getElem_mem hal)
  refine ⟨T[a], List.getElem?_eq_getElem hal, hrl, ?_⟩
  unfold cellT
  rw [List.getD_eq_getElem?_getD (l := T), List.getElem?_eq_getElem hal, Option.getD_some, List.getD_eq_getElem?_getD, List.getElem?_eq_getElem (by omega)]; rfl
def rowE (f : Nat → Int) (a b : Nat) : List E := (List.range b).filterMap fun j => if a ≤ j ∧ 0 < f j then some ⟨a, j, f j⟩ else none
def joinE (f : Nat → Nat → Int) (n a : Nat) : List E := (List.range a).flatMap fun i => rowE (f i) i n
@[simp] theorem rowE_start (f : Nat → Int) (a : Nat) : rowE f a a = [] := by
  simp only [rowE, List.filterMap_eq_nil_iff, List.mem_range]
  intro j hj
  rw [if_neg (by omega)]
end Go.Proofs.Ytbdpkgckdkpepaa
