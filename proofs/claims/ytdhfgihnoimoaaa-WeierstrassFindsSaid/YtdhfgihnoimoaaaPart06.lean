/- A part of the proof. -/
import Derived.Test.YtdhfgihnoimoaaaPart05
import Derived.Test.YtdhfgihnoimoaaaPart01
import Derived.Test.YtdhfgihnoimoaaaLayerC
import Derived.Test.YtdhfgihnoimoaaaLayerD
import Derived.Shelf.SlSortCmp.NoneTotal
import Derived.Test.YtdhfgihnoimoaaaLayerB
set_option linter.all false
set_option maxHeartbeats 4000000
set_option maxRecDepth 100000
namespace Go.Proofs.Ytdhfgihnoimoaaa
open Go.Sp
theorem eRows_snoc (l : List E) (x : E) : eRows l ++ [[.int .i64 x.a, .int .i64 x.b, .int .i64 x.m]] = eRows (l ++ [x]) := by simp [eRows, eRow]
theorem eRows_k' {l : List E} {r : List Tree} (h : r ∈ eRows l) : r.length = 3 := by
 obtain ⟨x, _, rfl⟩ := List.mem_map.1 h; rfl
def atL (L : List (Int × Int)) (h : Nat) : Int := if h % 2 = 0 then (L.getD (h / 2) (0, 0)).1 else (L.getD (h / 2) (0, 0)).2
def ownL (L : List (Int × Int)) (v : Int) (k : Nat) : List Int := ((List.range k).filter fun h => decide (atL L h = v)).map fun h : Nat => (h : Int)
def halvesL (L : List (Int × Int)) (n k : Nat) : List (List Int) := (List.range n).map fun v : Nat => ownL L (v : Int) k
theorem halvesL_len (L : List (Int × Int)) (n k : Nat) : (halvesL L n k).length = n := by simp [halvesL]
structure LOk (l own : List Int) : Prop where
 nd : l.Nodup
 sub : ∀ x, x ∈ l → x ∈ own
 sup : ∀ x, x ∈ own → x ∈ l
 len : l.length = own.length
 hd : l = [] ∨ l.getD 0 0 = own.getD 0 0
set_option maxHeartbeats 1000000
structure AllF (L : List (Nat × Nat)) (i : Nat) (s : BS) (nb : List (List Nat)) : Prop where
 ok : BOK L.length s
 opn : s.opn = []
 out : s.out = loopsB L ++ nb
 fin : ∀ e, NL L e → ∀ x z, tch L e x → tch L e z → sn s x ≠ 0 → sn s z ≠ 0
 cov : ∀ e, NL L e → ∀ x, tch L e x → sn s x ≠ 0 → e ∈ nb.flatten
 nbn : ∀ B, B ∈ nb → ∀ e, e ∈ B → NL L e ∧ ∀ x, tch L e x → sn s x ≠ 0
 nbr : ∀ B, B ∈ nb → B ≠ [] ∧ ∀ e, e ∈ B → ∀ f, f ∈ B → Rel L e f
 nbs : ∀ B, B ∈ nb → B.Pairwise (· < ·)
 nd : nb.flatten.Nodup
 peel : Peel L nb
 done : ∀ v, v < i → sn s v ≠ 0
structure BlkF (L : List (Nat × Nat)) (nb : List (List Nat)) : Prop where
 mem : ∀ e, e ∈ nb.flatten ↔ NL L e
 ne : ∀ B, B ∈ nb → B ≠ []
 srt : ∀ B, B ∈ nb → B.Pairwise (· < ·)
 rel : ∀ B, B ∈ nb → ∀ e, e ∈ B → ∀ f, f ∈ B → Rel L e f
 nd : nb.flatten.Nodup
 peel : Peel L nb
section
variable {L : List (Nat × Nat)} {nb : List (List Nat)}
end
def swapI (l : List Int) : Nat → List Int
 | 0 => l
 | i + 1 => ((swapI l i).set i ((swapI l i)[l.length - 1 - i]?.getD 0)).set (l.length - 1 - i) ((swapI l i)[i]?.getD 0)
@[simp] theorem swapI_zero (l : List Int) : swapI l 0 = l := rfl
theorem pre_in {m : Nat} {pre : List Blk} {B : List Int} (hpre : ∀ b, b ∈ pre → blkIn (pre.length + 1) b) (hm : m = pre.length + 1 := by rfl) : blksIn m (pre ++ [.box (iC B)]) := by
 subst hm
 intro b hb
 rcases List.mem_append.1 hb with hb | hb
 ·exact hpre b hb
 ·obtain rfl := List.mem_singleton.1 hb
  exact iC_in
@[simp] theorem take_pre (pre : List Blk) (X : Blk) : (pre ++ [X]).take (pre.length + 1) = pre ++ [X] := List.take_of_length_le (by simp)
end Go.Proofs.Ytdhfgihnoimoaaa
namespace Go.Proofs.Ytdhfgihnoimoaaa
open Go.Sp Go.RowKit
open Go.Sort (SWO)
def mnL (L : List (Int × Int)) (a : Nat) : Int := min (L.getD a (0, 0)).1 (L.getD a (0, 0)).2
def mxL (L : List (Int × Int)) (a : Nat) : Int := max (L.getD a (0, 0)).1 (L.getD a (0, 0)).2
def ltN (L : List (Int × Int)) (a b : Nat) : Prop := mnL L a < mnL L b ∨ (mnL L a = mnL L b ∧ (mxL L a < mxL L b ∨ (mxL L a = mxL L b ∧ a < b)))
instance ltN.dec (L : List (Int × Int)) (a b : Nat) : Decidable (ltN L a b) := by unfold ltN; infer_instance
end Go.Proofs.Ytdhfgihnoimoaaa
namespace Go.Proofs.Ytdhfgihnoimoaaa
open Go.Sp
def cntL : List E → Int → Int → Int
 | [], _, _ => 0
 | x :: xs, a, b => if x.a = a ∧ x.b = b then x.m else cntL xs a b
structure BagOk (n : Int) (k : Nat) (es : List E) : Prop where
 d : distinctE es
 len : es.length ≤ k
 m : ∀ e, e ∈ es → 1 ≤ e.m ∧ e.m ≤ k
 r : ∀ e, e ∈ es → 0 ≤ e.a ∧ e.a ≤ e.b ∧ e.b < n
@[simp] theorem chJ_halves (L : List (Int × Int)) (n k : Nat) : (chJ (halvesL L n k)).take n = chJ (halvesL L n k) := chJ_take (by rw [halvesL_len]; exact Nat.le_refl _)
end Go.Proofs.Ytdhfgihnoimoaaa
