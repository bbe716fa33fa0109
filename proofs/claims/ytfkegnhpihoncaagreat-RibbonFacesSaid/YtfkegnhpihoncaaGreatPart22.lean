/- A part of the proof: contracts of functions of the program, and plain lemmas. -/
import Derived.Test.YtfkegnhpihoncaaGreatPart21
import Derived.Test.YtfkegnhpihoncaaGreatLayerC
import Derived.Test.YtfkegnhpihoncaaGreatPart04
import Derived.Test.YtfkegnhpihoncaaGreatSpOpen
import Derived.Test.YtfkegnhpihoncaaGreatRows
import Derived.WalkKit
import Derived.ProofKit
import Derived.OpenShut
import Derived.ShutString
import Derived.ChangeOld
import Derived.Below
import Derived.Lib.SmallJoins
import Derived.Test.YtfkegnhpihoncaaGreatPart10
set_option linter.all false
namespace Go.Proofs.YtfkegnhpihoncaaGreat
open Go.Sp
set_option linter.unusedSimpArgs false
set_option linter.unusedVariables false
set_option maxHeartbeats 4000000
set_option maxRecDepth 100000
theorem FacesLaw_ok (r : R) : ACall Tryz.prog 3 [tR r] (tbool true) := by
  have hA := awake44_ok
  have f1 := FewR_ok r
  by_cases hr : fewR r = true
  case neg =>
    simp only [Bool.not_eq_true] at hr
    rw [hr] at f1
    obtain ⟨n, es, ar⟩ := r
    refine ACall.of_body Tryz.func3 rfl (by kernel_rfl) ?_
    simp only [entry, Tryz.ntmps3, tR]
    refine zU ?_
    refine zR trivial (zc f1 (zc hA trivial)) trivial ?_
    simp [Rets, aret, Blk.cells, ty, Tryz.results3, ares, toT1, toT, borrow, borrow0, capCell, toTree0, tbool]
  rw [hr] at f1
  have hs := rsm_of hr
  have hC := refCheck_ok r hs
  have hF := rFaces_ok r hs
  have hG := rGenus_ok r hs
  by_cases he : ribE r = 0
  · rw [he] at hC
    rw [if_neg (by omega), he] at hF hG
    have ho := rok_of he
    have rF := refFaces_ok r hs ho
    have rG := refGenus_ok r hs ho
    have hlen : (endsL r.es).length ≤ 2000 := ends_len (g := r.g) hs.es ho.c
    have l1 := facesR_le r
    have l2 := facesI_len r
    have hS := SameLists_ok (facesI r) (facesI r) (by omega) (by omega) (fun l hl => by have := facesI_short ho hl; omega) (fun l hl => by have := facesI_short ho hl; omega)
    rw [decide_eq_true rfl] at hS
    generalize facesI r = F at *
    generalize genusR r = G at *
    clear hr hs ho l1 l2 hlen he
    obtain ⟨n, es, ar⟩ := r
    refine ACall.of_body Tryz.func3 rfl (by kernel_rfl) ?_
    simp only [entry, Tryz.ntmps3, tR]
    refine zU ?_
    refine zR trivial (zc f1 (zc hA (zc hC (zc hF (zc hG (zc rF (zc rG (zc hS trivial)))))))) trivial ?_
    simp [Rets, aret, Blk.cells, ty, Tryz.results3, ares, toT1, toT, borrow, borrow0, capCell, toTree0, tbool]
  · rw [if_pos he] at hF hG
    generalize ribE r = E at *
    clear hr hs
    obtain ⟨n, es, ar⟩ := r
    refine ACall.of_body Tryz.func3 rfl (by kernel_rfl) ?_
    simp only [entry, Tryz.ntmps3, tR]
    refine zU ?_
    repeat' (first|((first|(refine zT ?_;intro K' hK')|(refine zG ?_ ?_<;>(try refine zH ?_)<;>intro hguard<;>(try exact zX)<;>try intro K' hK'))<;>((try simp +contextual only [go_sem, he, llRows_len, List.length_nil]);(repeat' first|(with_reducible refine hK' _ _ ?_;clear hK' K')|((with_reducible first|refine zK f1 ?_|refine zK hA ?_|refine zK hC ?_|refine zK hF ?_|refine zK hG ?_);try simp +contextual only [go_sem, he, llRows_len, List.length_nil])|exact zY|with_reducible refine And.intro ?_ ?_|(with_reducible intro hpath;try exact zP)|(refine hK' _ _ ?_;clear hK' K')|fail);try refine zS ?_))|(refine zE ?_;refine hK _ _ ?_;clear hK K)|(refine zN ?_;try refine zS ?_)|refine zA ?_|(refine zB ?_;intro K hK)|(refine zC ?_ ?_<;>(try refine zH ?_)<;>intro hcond<;>try exact zX)|fail)
    simp [Rets, aret, Blk.cells, ty, Tryz.results3, ares, toT1, toT, borrow, borrow0, capCell, toTree0, tbool]
end Go.Proofs.YtfkegnhpihoncaaGreat
set_option linter.all false
namespace Go.Proofs.YtfkegnhpihoncaaGreat
open Go.ChangeShapes Go.WideShapes Go.ChangeAt Go.RowKit Go.Joins Go.Sp
set_option linter.unusedVariables false
set_option maxRecDepth 100000
theorem own : ownKnob Tryz.prog.godebug = none := by kernel_rfl
theorem laidOut : laidOutB Tryz.prog = true := by kernel_rfl
theorem edgeCells : IntCells Tryz.prog 76 3 :=
  intCells_struct Tryz.underlying76 (by kernel_rfl) (fun i f hf => by
    match i, hf with
    | 0, hf => obtain rfl := Option.some.inj hf; exact ⟨Tryz.underlying3, by kernel_rfl, rfl⟩
    | 1, hf => obtain rfl := Option.some.inj hf; exact ⟨Tryz.underlying3, by kernel_rfl, rfl⟩
    | 2, hf => obtain rfl := Option.some.inj hf; exact ⟨Tryz.underlying3, by kernel_rfl, rfl⟩
    | n + 3, hf => simp at hf)
def toE (r : List Int) : E := ⟨r.getD 0 0, r.getD 1 0, r.getD 2 0⟩
theorem eRows_of {rows : List (List Int)} (h : ∀ r, r ∈ rows → r.length = 3) : rows.map tInts = eRows (rows.map toE) := by
  simp only [eRows, List.map_map]
  refine List.map_congr_left fun r hr => ?_
  match r, h r hr with
  | [a, b, c], _ => rfl
theorem intCell : IntCells Tryz.prog 3 1 := intCells_int Tryz.underlying3 (by kernel_rfl)
end Go.Proofs.YtfkegnhpihoncaaGreat
set_option linter.all false
namespace Go.Proofs.YtfkegnhpihoncaaGreat
open Go.ChangeShapes Go.WideShapes Go.ChangeAt Go.RowKit Go.Joins Go.Sp
set_option linter.unusedVariables false
set_option maxRecDepth 100000
theorem open_ribbon {H : Type} {enc : TypeId × Value → H} {w : World} {r : Reach} {b0 base : Nat} {spare : Nat → Bool} {held : Bool} {v : Value} {d : DataW H} {p : List MemPlace}
    (hv : Value.okWide Tryz.prog w r b0 27 v) (h : DataW.Trod enc Tryz.prog w base spare held 27 v d p) : ∃ x : R, TVRel (fun _ _ => True) w (tR x) v := by
  obtain ⟨cs, rfl, hsz⟩ := okWide_struct Tryz.underlying27 hv
  have hC : Tryz.prog.cellsOf 27 = 3 := by kernel_rfl
  have hC2 : Tryz.prog.cellsOf 24 = 2 := by kernel_rfl
  have hC1 : Tryz.prog.cellsOf 25 = 1 := by kernel_rfl
  have hC0 : Tryz.prog.cellsOf 3 = 1 := by kernel_rfl
  have hCe : Tryz.prog.cellsOf 22 = 1 := by kernel_rfl
  have hCi : Tryz.prog.cellsOf 40 = 1 := by kernel_rfl
  obtain ⟨c0, c1, c2, rfl⟩ := array3 (hsz.trans hC)
  obtain ⟨fuel, hf⟩ := h
  obtain ⟨xs, m, -, -, -, hx, hg⟩ := DataW.trod_struct Tryz.underlying27 hf
  have g0 : DataW.trod enc Tryz.prog w base spare held m 24 (([c0, c1, c2].drop 0).take (Tryz.prog.cellsOf 24)) = xs[0]? := hg 0 _ rfl
  have g1 : DataW.trod enc Tryz.prog w base spare held m 25 (([c0, c1, c2].drop 2).take (Tryz.prog.cellsOf 25)) = xs[1]? := hg 1 _ rfl
  have hx2 : xs.length = 2 := hx
  rw [List.getElem?_eq_getElem (by omega)] at g0 g1
  simp only [hC2, hC1, List.drop_zero, List.take_succ_cons, List.take_zero, List.drop_succ_cons, List.drop_zero] at g0 g1
  obtain ⟨ys, m', -, -, -, hy, hk⟩ := DataW.trod_struct Tryz.underlying24 g0
  have k0 : DataW.trod enc Tryz.prog w base spare held m' 3 (([c0, c1].drop 0).take (Tryz.prog.cellsOf 3)) = ys[0]? := hk 0 _ rfl
  have k1 : DataW.trod enc Tryz.prog w base spare held m' 22 (([c0, c1].drop 1).take (Tryz.prog.cellsOf 22)) = ys[1]? := hk 1 _ rfl
  have hy2 : ys.length = 2 := hy
  rw [List.getElem?_eq_getElem (by omega)] at k0 k1
  simp only [hC0, hCe, List.drop_zero, List.take_succ_cons, List.take_zero, List.drop_succ_cons] at k0 k1
  obtain ⟨n, hn, -, -⟩ := DataW.trod_int Tryz.underlying3 k0
  obtain rfl : c0 = .int .i64 n := by simpa using hn
  obtain ⟨rows, hr, -, ht⟩ := open_rows Tryz.underlying22 edgeCells (by decide) k1
  rw [eRows_of fun r hr' => (hr r hr').1] at ht
  obtain ⟨ls, -, hl⟩ := open_rows2 Tryz.underlying25 Tryz.underlying40 hCi intCell g1
  refine ⟨⟨n, rows.map toE, ls⟩, #[.int .i64 n, c1, c2], rfl, rfl, fun j c u hc hu => ?_⟩
  match j, hc, hu with
  | 0, hc, hu => simp at hc hu; subst hc hu; exact .int _ _
  | 1, hc, hu => simp at hc hu; subst hc hu; exact ht
  | 2, hc, hu => simp at hc hu; subst hc hu; exact hl
  | k + 3, hc, hu => simp at hc
end Go.Proofs.YtfkegnhpihoncaaGreat
