/- A part of the proof: contracts of functions of the program, and plain lemmas. -/
import Derived.Test.YtfkegnhpihoncaaGreatPart02
import Derived.Test.YtfkegnhpihoncaaGreatPart32
import Derived.Test.YtfkegnhpihoncaaGreatPart34
import Derived.Test.YtfkegnhpihoncaaGreatLayerC
import Derived.Test.YtfkegnhpihoncaaGreatPart33
set_option linter.all false
namespace Go.Proofs.YtfkegnhpihoncaaGreat
open Go.Sp
set_option linter.unusedSimpArgs false
set_option linter.unusedVariables false
def seenL (r : R) : List Nat := (facesR r).flatten
def mB (l : List Nat) : List (MKey × MV) := l.map fun x : Nat => (.int (x : Int), .c (.bool true))
end Go.Proofs.YtfkegnhpihoncaaGreat
set_option linter.all false
namespace Go.Proofs.YtfkegnhpihoncaaGreat
open Go.Sp
set_option linter.unusedSimpArgs false
set_option linter.unusedVariables false
set_option maxHeartbeats 4000000
set_option maxRecDepth 100000
theorem rFaces_ok (r : R) (hs : RSm r) : ACall Tryz.prog 13 [tR r] (.tup [tlists (if ribE r ≠ 0 then [] else facesI r), tint (ribE r)]) := by
  have hC := rchecked_ok r hs
  by_cases he : ribE r = 0
  · have hF := faces_ok r hs (rok_of he)
    rw [if_neg (by omega), he] at hC
    rw [if_neg (by omega), he]
    generalize facesI r = F at *
    generalize tabI (2 * (endsL r.es).length) (ofN (fR (endsL r.es) r.ar) (2 * (endsL r.es).length) (2 * (endsL r.es).length)) = O at *
    generalize endsL r.es = L at *
    clear he hs
    obtain ⟨n, es, ar⟩ := r
    refine ACall.of_body Tryz.func13 rfl (by kernel_rfl) ?_
    simp only [entry, Tryz.ntmps13, tR]
    refine zU ?_
    refine zR (zc @pRows_len trivial) (zc hC (zc hF trivial)) trivial ?_
    simp [Rets, aret, Blk.cells, ty, Tryz.results13, ares, toT1, toT, borrow, borrow0, capCell, toTree0, tint, tlists]
  · rw [if_pos he] at hC ⊢
    generalize ribE r = E at *
    obtain ⟨n, es, ar⟩ := r
    refine ACall.of_body Tryz.func13 rfl (by kernel_rfl) ?_
    simp only [entry, Tryz.ntmps13, tR]
    refine zU ?_
    refine zR (zc @he trivial) (zc hC trivial) trivial ?_
    simp [Rets, aret, Blk.cells, ty, Tryz.results13, ares, toT1, toT, borrow, borrow0, capCell, toTree0, tint, tlists, llRows]
theorem tdiv_bnd {x : Int} (h1 : -10000 ≤ x) (h2 : x ≤ 10000) : -10000 ≤ x.tdiv 2 ∧ x.tdiv 2 ≤ 10000 := by
  rcases Int.le_total 0 x with h | h
  · rw [Int.tdiv_eq_ediv_of_nonneg h]; omega
  · obtain ⟨y, rfl⟩ : ∃ y, x = -y := ⟨-x, by omega⟩
    rw [Int.neg_tdiv, Int.tdiv_eq_ediv_of_nonneg (by omega)]; omega
theorem facesI_len (r : R) : (facesI r).length = (facesR r).length := by simp [facesI]
theorem facesR_le (r : R) : (facesR r).length ≤ 2 * (endsL r.es).length + 1 := by
  unfold facesR
  split
  · simp
  · have := facesN_le (fR (endsL r.es) r.ar) (2 * (endsL r.es).length) (2 * (endsL r.es).length); omega
theorem rGenus_ok (r : R) (hs : RSm r) : ACall Tryz.prog 14 [tR r] (.tup [tint (if ribE r ≠ 0 then 0 else genusR r), tint (ribE r)]) := by
  have hC := rchecked_ok r hs
  by_cases he : ribE r = 0
  · have hF := faces_ok r hs (rok_of he)
    rw [if_neg (by omega), he] at hC
    rw [if_neg (by omega), he]
    have hfl := facesI_len r
    have hfe := facesR_le r
    have hlen : (endsL r.es).length ≤ 2000 := ends_len (g := r.g) hs.es (rok_of he).c
    have h12 : 1 ≤ r.n ∧ r.n ≤ 12 := (checkG_zero.1 (rok_of he).c).1
    unfold genusR
    rw [← hfl]
    rw [← hfl] at hfe
    generalize facesI r = F at *
    generalize tabI (2 * (endsL r.es).length) (ofN (fR (endsL r.es) r.ar) (2 * (endsL r.es).length) (2 * (endsL r.es).length)) = O at *
    generalize endsL r.es = L at *
    clear he hs hfl
    obtain ⟨n, es, ar⟩ := r
    try simp only at h12 ⊢
    refine ACall.of_body Tryz.func14 rfl (by kernel_rfl) ?_
    simp only [entry, Tryz.ntmps14, tR]
    refine zU ?_
    have hd := tdiv_bnd (x := 2 - n + (L.length : Int) - (F.length : Int)) (by omega) (by omega)
    have hd1 : -9223372036854775808 ≤ (2 - n + (L.length : Int) - (F.length : Int)).tdiv 2 := by omega
    have hd2 : (2 - n + (L.length : Int) - (F.length : Int)).tdiv 2 ≤ 9223372036854775807 := by omega
    refine zR (zc @pRows_len (zc @llRows_len (zc @hd1 (zc @hd2 trivial)))) (zc hC (zc hF trivial)) trivial ?_
    simp [Rets, aret, Blk.cells, ty, Tryz.results14, ares, toT1, toT, borrow, borrow0, capCell, toTree0, tint]
  · rw [if_pos he] at hC ⊢
    generalize ribE r = E at *
    obtain ⟨n, es, ar⟩ := r
    refine ACall.of_body Tryz.func14 rfl (by kernel_rfl) ?_
    simp only [entry, Tryz.ntmps14, tR]
    refine zU ?_
    refine zR (zc @he trivial) (zc hC trivial) trivial ?_
    simp [Rets, aret, Blk.cells, ty, Tryz.results14, ares, toT1, toT, borrow, borrow0, capCell, toTree0, tint]
end Go.Proofs.YtfkegnhpihoncaaGreat
set_option linter.all false
namespace Go.Proofs.YtfkegnhpihoncaaGreat
open Go.Sp
set_option linter.unusedSimpArgs false
set_option linter.unusedVariables false
set_option maxHeartbeats 4000000
set_option maxRecDepth 100000
def tkF : Nat → Tok
  | 0 => .exact
  | _ + 1 => .chain 1
def hpF : Nat → List Blk
  | 0 => []
  | k + 1 => [.chain (k + 2) 1]
def hnF : Nat → Nat
  | 0 => 1
  | _ + 1 => 2
end Go.Proofs.YtfkegnhpihoncaaGreat
