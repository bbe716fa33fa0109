/- A part of the proof. -/
import Derived.Test.YtfkegnhpihoncaaGreatPart48
import Derived.Test.YtfkegnhpihoncaaGreatLayerC
set_option linter.all false
set_option maxHeartbeats 4000000
set_option maxRecDepth 100000
namespace Go.Proofs.YtfkegnhpihoncaaGreat
open Go.Sp
theorem FewT_ok (g : G) : ACall Tryz.prog 42 [tG g] (tbool (smallB g 5 8)) := by
 have h := small_ok g 5 8
 generalize smallB g 5 8 = b at *
 obtain ⟨n, es⟩ := g
 refine ACall.of_body Tryz.func42 rfl (by kernel_rfl) ?_
 simp only [entry, Tryz.ntmps42, tG]
 refine zU ?_
 refine zR trivial (zc h trivial) trivial ?_
 simp [Rets, aret, Blk.cells, ty, Tryz.results42, ares, toT1, toT, borrow, borrow0, capCell, toTree0, tbool]
theorem Trees_walk (n : Int) (es : List E) (ar : List (List Int)) (t c : List Int) (dn : Int) (des : List E) (dar : List (List Int)) (dN : List Int) (gr : Int) (m : Nat)
  (f1 : ACall Tryz.prog 19 [tR ⟨n, es, ar⟩] (tbool true)) (f2 : ACall Tryz.prog 42 [tG ⟨n, es⟩] (tbool true))
  (htl : t.length ≤ 30) (hcl : c.length < 2 ^ 40) (f3 : ACall Tryz.prog 43 [tG ⟨n, es⟩, tints t] (tint 0)) (hA : ACall Tryz.prog 12 [] (tbool true))
  (hD : ACall Tryz.prog 23 [tR ⟨n, es, ar⟩] (.tup [tR ⟨dn, des, dar⟩, tints dN, tint 0]))
  (hG : ACall Tryz.prog 14 [tR ⟨n, es, ar⟩] (.tup [tint gr, tint 0]))
  (hC : ACall Tryz.prog 40 [tR ⟨n, es, ar⟩, tints t] (.tup [tints c, tint 0]))
  (hZ : ACall Tryz.prog 21 [tG ⟨n, es⟩] (tint c.length))
  (hN1 : ACall Tryz.prog 44 [tG ⟨n, es⟩] (.tup [tint m, tint 0])) (h0 : ¬ 0 < gr → ACall Tryz.prog 44 [tG ⟨dn, des⟩] (.tup [tint m, tint 0]) ∧ ACall Tryz.prog 45 [tG ⟨dn, des⟩, tints c] (tint 0)) :
  ACall Tryz.prog 10 [tR ⟨n, es, ar⟩, tints t] (tbool true) := by
 have htI : ¬ (30 < (t.length : Int)) := by omega
 simp only [tR] at f1 hD hG hC
 by_cases hg : 0 < gr
 ·
  refine ACall.of_body Tryz.func10 rfl (by kernel_rfl) ?_
  simp only [entry, Tryz.ntmps10, tR, tints]
  refine zU ?_
  refine zR (zc @iRows_len (zc @htI (zc @hg trivial))) (zc f1 (zc f2 (zc f3 (zc hA (zc hD (zc hG (zc hC (zc hZ trivial)))))))) trivial ?_
  simp [Rets, aret, Blk.cells, ty, Tryz.results10, ares, toT1, toT, borrow, borrow0, capCell, toTree0, tbool]
 ·obtain ⟨hN2, hCk⟩ := h0 hg
  refine ACall.of_body Tryz.func10 rfl (by kernel_rfl) ?_
  simp only [entry, Tryz.ntmps10, tR, tints]
  refine zU ?_
  repeat' (first|((first|(refine zT ?_;intro K' hK')|(refine zG ?_ ?_<;>(try refine zH ?_)<;>intro hguard<;>(try exact zX)<;>try intro K' hK'))<;>((try simp +contextual only [go_sem, iRows_len, htI, hg]);(repeat' first|(with_reducible refine hK' _ _ ?_;clear hK' K')|((with_reducible first|refine zK f1 ?_|refine zK f2 ?_|refine zK f3 ?_|refine zK hA ?_|refine zK hD ?_|refine zK hG ?_|refine zK hC ?_|refine zK hZ ?_|refine zK hN1 ?_|refine zK hN2 ?_|refine zK hCk ?_);try simp +contextual only [go_sem, iRows_len, htI, hg])|exact zY|with_reducible refine And.intro ?_ ?_|(with_reducible intro hpath;try exact zP)|(refine hK' _ _ ?_;clear hK' K')|fail);try refine zS ?_))|(refine zE ?_;refine hK _ _ ?_;clear hK K)|(refine zN ?_;try refine zS ?_)|refine zA ?_|(refine zB ?_;intro K hK)|(refine zC ?_ ?_<;>(try refine zH ?_)<;>intro hcond<;>try exact zX)|fail)
  simp [Rets, aret, Blk.cells, ty, Tryz.results10, ares, toT1, toT, borrow, borrow0, capCell, toTree0, tbool]
end Go.Proofs.YtfkegnhpihoncaaGreat
