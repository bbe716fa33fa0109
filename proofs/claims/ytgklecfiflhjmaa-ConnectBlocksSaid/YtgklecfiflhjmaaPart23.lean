/- A part of the proof. -/
import Derived.Test.YtgklecfiflhjmaaPart22
import Derived.Test.YtgklecfiflhjmaaPart19
import Derived.Test.YtgklecfiflhjmaaLayerC
import Derived.Test.YtgklecfiflhjmaaPart20
import Derived.Test.YtgklecfiflhjmaaPart21
set_option linter.all false
set_option maxHeartbeats 4000000
set_option maxRecDepth 100000
namespace Go.Proofs.Ytgklecfiflhjmaa
open Go.Sp
def kite : G := ⟨5, [⟨0, 1, 1⟩, ⟨0, 2, 1⟩, ⟨1, 2, 1⟩, ⟨2, 3, 1⟩, ⟨3, 4, 2⟩, ⟨4, 4, 1⟩]⟩
theorem kite_check : checkG kite = 0 := by decide +kernel
theorem kite_bridges : zI (brI (nL (endsL kite.es)) (blocksB (nL (endsL kite.es)) kite.n.toNat)) = [3] := by decide +kernel
theorem kite_blocks : oI (blocksB (nL (endsL kite.es)) kite.n.toNat) = [[0, 1, 2], [3], [4, 5], [6]] := by decide +kernel
theorem kite_arts : zI (artI (nL (endsL kite.es)) (blocksB (nL (endsL kite.es)) kite.n.toNat) kite.n.toNat) = [2, 3] := by decide +kernel
theorem kite_connE : connE kite = 0 := by decide +kernel
theorem kite_conn1 : (connW kite.n.toNat kite.es (2 ^ kite.n.toNat - 1)).1 = 1 := by decide +kernel
theorem kite_conn2 : zI (connW kite.n.toNat kite.es (2 ^ kite.n.toNat - 1)).2 = [0, 1, 2] := by decide +kernel
theorem kite_sub1 : subG kite [0] = 0 := by decide +kernel
theorem kite_sub2 : subG kite [0, 4] = 0 := by decide +kernel
theorem kite_bond1 : bondB kite [0] = true := by decide +kernel
theorem kite_bond2 : bondB kite [0, 4] = false := by decide +kernel
theorem kite_edg : edgE kite [0, 3, 6] = 0 := by decide +kernel
theorem kite_parts : partsV (genS (pkL (endsL kite.es) [0, 3, 6])).1 kite.n.toNat = [[0, 1], [2, 3], [4]] := by decide +kernel
theorem Kite_ok : ACall Try.prog 42 [] (tG kite) := by
 refine ACall.of_body Try.func42 rfl (by kernel_rfl) ?_
 simp only [entry, Try.ntmps42]
 refine zU ?_
 refine zR trivial trivial trivial ?_
 simp [Rets, aret, Blk.cells, ty, Try.results42, ares, toT1, toT, borrow, borrow0, capCell, toTree0, tG, kite, eRows, eRow]
 rfl
theorem cawake_ok : ACall Try.prog 11 [] (tbool true) := by
 have hkt := Kite_ok
 have hl : kite.es.length ≤ 40 := by decide
 have c1 := Bridges_ok kite hl
 have c2 := Blocks_ok kite hl
 have c3 := Articulations_ok kite hl
 have c4 := Connectivity_ok kite hl
 have c5 := Bond_ok kite [0] hl (by decide)
 have c6 := Bond_ok kite [0, 4] hl (by decide)
 have c7 := cParts_ok kite [0, 3, 6] hl (by decide)
 rw [if_neg (by rw [kite_check]; decide), kite_bridges, kite_check] at c1
 rw [if_neg (by rw [kite_check]; decide), kite_blocks, kite_check] at c2
 rw [if_neg (by rw [kite_check]; decide), kite_arts, kite_check] at c3
 rw [if_neg (by rw [kite_connE]; decide), if_neg (by rw [kite_connE]; decide), kite_conn1, kite_conn2, kite_connE] at c4
 rw [kite_sub1, kite_bond1] at c5
 rw [kite_sub2, kite_bond2] at c6
 rw [if_neg (by rw [kite_edg]; decide), kite_parts, kite_edg] at c7
 rw [show (decide ((0 : Int) = 0) && true) = true from rfl] at c5
 rw [show (decide ((0 : Int) = 0) && false) = false from rfl] at c6
 have d1 := Equal_ok [3] [3] (by decide) (by decide)
 have d2 := Equal_ok [2, 3] [2, 3] (by decide) (by decide)
 have d3 := Equal_ok [0, 1, 2] [0, 1, 2] (by decide) (by decide)
 have d4 := SameLists_ok [[0, 1, 2], [3], [4, 5], [6]] [[0, 1, 2], [3], [4, 5], [6]] (by decide) (by decide) (by decide) (by decide)
 have d5 := SameLists_ok [[0, 1], [2, 3], [4]] [[0, 1], [2, 3], [4]] (by decide) (by decide) (by decide) (by decide)
 rw [decide_eq_true rfl] at d1 d2 d3 d4 d5
 unfold tG at hkt c1 c2 c3 c4 c5 c6 c7
 have hk1 : kite.n = 5 := rfl
 rw [hk1] at hkt c1 c2 c3 c4 c5 c6 c7
 generalize kite.es = es at hkt c1 c2 c3 c4 c5 c6 c7
 refine ACall.of_body Try.func11 rfl (by kernel_rfl) ?_
 simp only [entry, Try.ntmps11]
 refine zU ?_
 repeat' (first|((first|(refine zT ?_;intro K' hK')|(refine zG ?_ ?_<;>(try refine zH ?_)<;>intro hguard<;>(try exact zX)<;>try intro K' hK'))<;>((try simp +contextual only [go_sem, chunks, List.range, List.range.loop]);(repeat' first|(with_reducible refine hK' _ _ ?_;clear hK' K')|((with_reducible first|refine zK hkt ?_|refine zK c1 ?_|refine zK c2 ?_|refine zK c3 ?_|refine zK c4 ?_|refine zK c5 ?_|refine zK c6 ?_|refine zK c7 ?_|refine zK d1 ?_|refine zK d2 ?_|refine zK d3 ?_|refine zK d4 ?_|refine zK d5 ?_);try simp +contextual only [go_sem, chunks, List.range, List.range.loop])|exact zY|with_reducible refine And.intro ?_ ?_|(with_reducible intro hpath;try exact zP)|(refine hK' _ _ ?_;clear hK' K')|fail);try refine zS ?_))|(refine zE ?_;refine hK _ _ ?_;clear hK K)|(refine zN ?_;try refine zS ?_)|refine zA ?_|(refine zB ?_;intro K hK)|(refine zC ?_ ?_<;>(try refine zH ?_)<;>intro hcond<;>try exact zX)|fail)
 simp [Rets, aret, Blk.cells, ty, Try.results11, ares, toT1, toT, borrow, borrow0, capCell, toTree0, tbool]
def smallB (g : G) (a b : Int) : Bool := decide (g.es.length ≤ 40) && (decide (checkG g ≠ 0) || (decide (g.n ≤ a) && decide (((endsL g.es).length : Int) ≤ b)))
theorem small_ok (g : G) (a b : Int) : ACall Try.prog 41 [tG g, tint a, tint b] (tbool (smallB g a b)) := by
 refine ACall.of_body Try.func41 rfl (by kernel_rfl) ?_
 simp only [entry, Try.ntmps41, tG, tint]
 refine zU ?_
 by_cases hl : g.es.length ≤ 40
 ·by_cases hc : checkG g = 0
  ·have hs := sm_of (g := g) (by omega) hc
   have e : smallB g a b = (decide (g.n ≤ a) && decide (((endsL g.es).length : Int) ≤ b)) := by unfold smallB; rw [decide_eq_true hl, hc, Bool.true_and, show decide ((0 : Int) ≠ 0) = false by decide, Bool.false_or]
   rw [e]
   by_cases hn : g.n ≤ a
   ·rw [decide_eq_true hn, Bool.true_and]
    repeat' (first|((first|(refine zT ?_;intro K' hK')|(refine zG ?_ ?_<;>(try refine zH ?_)<;>intro hguard<;>(try exact zX)<;>try intro K' hK'))<;>((try simp +contextual only [go_sem, eRows_len, hc, hn]);(repeat' first|(with_reducible refine hK' _ _ ?_;clear hK' K')|((with_reducible first|refine zL (c:=CheckR_ok g (by omega)) (q:=?_)|refine zK (SizeR_ok g hs.s hs.es hs.m) ?_);try simp +contextual only [go_sem, eRows_len, hc, hn])|exact zY|with_reducible refine And.intro ?_ ?_|(with_reducible intro hpath;try exact zP)|(refine hK' _ _ ?_;clear hK' K')|fail);try refine zS ?_))|(refine zE ?_;refine hK _ _ ?_;clear hK K)|(refine zN ?_;try refine zS ?_)|refine zA ?_|(refine zB ?_;intro K hK)|(refine zC ?_ ?_<;>(try refine zH ?_)<;>intro hcond<;>try exact zX)|fail)
    simp [Rets, aret, Blk.cells, ty, Try.results41, ares, toT1, toT, borrow, borrow0, capCell, toTree0, tbool]
   ·rw [decide_eq_false hn, Bool.false_and]
    repeat' (first|((first|(refine zT ?_;intro K' hK')|(refine zG ?_ ?_<;>(try refine zH ?_)<;>intro hguard<;>(try exact zX)<;>try intro K' hK'))<;>((try simp +contextual only [go_sem, eRows_len, hc, hn]);(repeat' first|(with_reducible refine hK' _ _ ?_;clear hK' K')|((with_reducible first|refine zL (c:=CheckR_ok g (by omega)) (q:=?_)|refine zK (SizeR_ok g hs.s hs.es hs.m) ?_);try simp +contextual only [go_sem, eRows_len, hc, hn])|exact zY|with_reducible refine And.intro ?_ ?_|(with_reducible intro hpath;try exact zP)|(refine hK' _ _ ?_;clear hK' K')|fail);try refine zS ?_))|(refine zE ?_;refine hK _ _ ?_;clear hK K)|(refine zN ?_;try refine zS ?_)|refine zA ?_|(refine zB ?_;intro K hK)|(refine zC ?_ ?_<;>(try refine zH ?_)<;>intro hcond<;>try exact zX)|fail)
    simp [Rets, aret, Blk.cells, ty, Try.results41, ares, toT1, toT, borrow, borrow0, capCell, toTree0, tbool]
  ·
   repeat' (first|((first|(refine zT ?_;intro K' hK')|(refine zG ?_ ?_<;>(try refine zH ?_)<;>intro hguard<;>(try exact zX)<;>try intro K' hK'))<;>((try simp +contextual only [go_sem, eRows_len]);(repeat' first|(with_reducible refine hK' _ _ ?_;clear hK' K')|(with_reducible refine zL (c:=CheckR_ok g (by omega)) (q:=?_);try simp +contextual only [go_sem, eRows_len])|exact zY|with_reducible refine And.intro ?_ ?_|(with_reducible intro hpath;try exact zP)|(refine hK' _ _ ?_;clear hK' K')|fail);try refine zS ?_))|(refine zE ?_;refine hK _ _ ?_;clear hK K)|(refine zN ?_;try refine zS ?_)|refine zA ?_|(refine zB ?_;intro K hK)|(refine zC ?_ ?_<;>(try refine zH ?_)<;>intro hcond<;>try exact zX)|fail)
   have e : smallB g a b = true := by unfold smallB; rw [decide_eq_true hl, decide_eq_true (show checkG g ≠ 0 from hc)]; rfl
   simp [Rets, aret, Blk.cells, ty, Try.results41, ares, toT1, toT, borrow, borrow0, capCell, toTree0, tbool, e]
 ·
  refine zR (zc @eRows_len trivial) trivial trivial ?_
  have e : smallB g a b = false := by unfold smallB; rw [decide_eq_false hl]; rfl
  simp [Rets, aret, Blk.cells, ty, Try.results41, ares, toT1, toT, borrow, borrow0, capCell, toTree0, tbool, e]
theorem FewG_ok (g : G) : ACall Try.prog 10 [tG g] (tbool (smallB g 6 9)) := by
 have h := small_ok g 6 9
 generalize smallB g 6 9 = b at *
 obtain ⟨n, es⟩ := g
 refine ACall.of_body Try.func10 rfl (by kernel_rfl) ?_
 simp only [entry, Try.ntmps10, tG]
 refine zU ?_
 refine zR trivial (zc h trivial) trivial ?_
 simp [Rets, aret, Blk.cells, ty, Try.results10, ares, toT1, toT, borrow, borrow0, capCell, toTree0, tbool]
section
variable {N : Nat} {f : Nat → Nat}
end
section
variable {J : List (Int × Int)}
end
end Go.Proofs.Ytgklecfiflhjmaa
