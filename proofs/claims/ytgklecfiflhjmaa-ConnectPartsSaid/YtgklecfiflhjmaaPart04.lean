/- A part of the proof. -/
import Derived.Test.YtgklecfiflhjmaaPart03
import Derived.Test.YtgklecfiflhjmaaLayerC
set_option linter.all false
set_option maxHeartbeats 4000000
set_option maxRecDepth 100000
namespace Go.Proofs.Ytgklecfiflhjmaa
open Go.Sp
theorem Vertex_ok (g : G) (v : Int) : ACall Try.prog 56 [tG g, tint v] (tbool (decide (0 ≤ v ∧ v < g.n))) := by
 refine ACall.of_body Try.func56 rfl (by kernel_rfl) ?_
 simp only [entry, Try.ntmps56, tG, tint]
 refine zU ?_
 repeat' (first|((first|(refine zT ?_;intro K' hK')|(refine zG ?_ ?_<;>(try refine zH ?_)<;>intro hguard<;>(try exact zX)<;>try intro K' hK'))<;>((try simp +contextual only [go_sem]);(repeat' first|(with_reducible refine hK' _ _ ?_;clear hK' K')|exact zY|with_reducible refine And.intro ?_ ?_|(with_reducible intro hpath;try exact zP)|(refine hK' _ _ ?_;clear hK' K')|fail);try refine zS ?_))|(refine zE ?_;refine hK _ _ ?_;clear hK K)|(refine zN ?_;try refine zS ?_)|refine zA ?_|(refine zB ?_;intro K hK)|(refine zC ?_ ?_<;>(try refine zH ?_)<;>intro hcond<;>try exact zX)|fail)
 all_goals
  simp [Rets, aret, Blk.cells, ty, Try.results56, ares, toT1, toT, borrow, borrow0, capCell, toTree0, tbool]
 all_goals omega
def edgeE (n : Int) (es : List E) (i : Nat) : Int :=
 match es[i]? with
 | none => 0
 | some x =>
  if ¬ (0 ≤ x.a ∧ x.a < n) ∨ ¬ (0 ≤ x.b ∧ x.b < n) ∨ x.m < 1 ∨ 50 < x.m then 2
  else if x.b < x.a then 9
  else match i with
   | 0 => 0
   | j + 1 => match es[j]? with
    | none => 0
    | some y => if x.a < y.a ∨ (x.a = y.a ∧ x.b ≤ y.b) then 9 else 0
theorem edge_ok (g : G) (i : Nat) (hi : i < g.es.length) (hl : g.es.length < 2 ^ 40) : ACall Try.prog 46 [tG g, tint i] (tint (edgeE g.n g.es i)) := by
 have e1 : g.es[i]? = some g.es[i] := List.getElem?_eq_getElem hi
 have e2 := eRows_get e1
 cases i with
 | zero =>
  refine ACall.of_body Try.func46 rfl (by kernel_rfl) ?_
  simp only [entry, Try.ntmps46, tG, tint]
  refine zU ?_
  repeat' (first|((first|(refine zT ?_;intro K' hK')|(refine zG ?_ ?_<;>(try refine zH ?_)<;>intro hguard<;>(try exact zX)<;>try intro K' hK'))<;>((try simp +contextual only [go_sem, e2, Int.toNat_natCast, Int.toNat_zero, Int.natCast_zero]);(repeat' first|(with_reducible refine hK' _ _ ?_;clear hK' K')|(with_reducible refine zK (Vertex_ok g _) ?_;try simp +contextual only [go_sem, e2, Int.toNat_natCast, Int.toNat_zero, Int.natCast_zero])|exact zY|with_reducible refine And.intro ?_ ?_|(with_reducible intro hpath;try exact zP)|(refine hK' _ _ ?_;clear hK' K')|fail);try refine zS ?_))|(refine zE ?_;refine hK _ _ ?_;clear hK K)|(refine zN ?_;try refine zS ?_)|refine zA ?_|(refine zB ?_;intro K hK)|(refine zC ?_ ?_<;>(try refine zH ?_)<;>intro hcond<;>try exact zX)|fail)
  all_goals
   simp [Rets, aret, Blk.cells, ty, Try.results46, ares, toT1, toT, borrow, borrow0, capCell, toTree0, tint, edgeE, e1]
  all_goals omega
 | succ j =>
  have hj : j < g.es.length := by omega
  have f1 : g.es[j]? = some g.es[j] := List.getElem?_eq_getElem hj
  have f2 := eRows_get f1
  have e4 : ((j + 1 : Nat) : Int) - 1 = j := by omega
  have e5 : ((j + 1 : Nat) : Int).toNat = j + 1 := by omega
  have e6 : ((j : Nat) : Int).toNat = j := by omega
  refine ACall.of_body Try.func46 rfl (by kernel_rfl) ?_
  simp only [entry, Try.ntmps46, tG, tint]
  refine zU ?_
  repeat' (first|((first|(refine zT ?_;intro K' hK')|(refine zG ?_ ?_<;>(try refine zH ?_)<;>intro hguard<;>(try exact zX)<;>try intro K' hK'))<;>((try simp +contextual only [go_sem, e2, e4, e5, e6, f2]);(repeat' first|(with_reducible refine hK' _ _ ?_;clear hK' K')|(with_reducible refine zK (Vertex_ok g _) ?_;try simp +contextual only [go_sem, e2, e4, e5, e6, f2])|exact zY|with_reducible refine And.intro ?_ ?_|(with_reducible intro hpath;try exact zP)|(refine hK' _ _ ?_;clear hK' K')|fail);try refine zS ?_))|(refine zE ?_;refine hK _ _ ?_;clear hK K)|(refine zN ?_;try refine zS ?_)|refine zA ?_|(refine zB ?_;intro K hK)|(refine zC ?_ ?_<;>(try refine zH ?_)<;>intro hcond<;>try exact zX)|fail)
  all_goals
   simp [Rets, aret, Blk.cells, ty, Try.results46, ares, toT1, toT, borrow, borrow0, capCell, toTree0, tint, edgeE, e1, f1]
  all_goals omega
def checkE (n : Int) (es : List E) : Nat → Int
 | 0 => 0
 | k + 1 => if edgeE n es (es.length - (k + 1)) ≠ 0 then edgeE n es (es.length - (k + 1)) else checkE n es k
def checkG (g : G) : Int := if g.n < 1 ∨ 12 < g.n then 2 else checkE g.n g.es g.es.length
theorem CheckR_ok (g : G) (hl : g.es.length < 2 ^ 40) : ACall Try.prog 14 [tG g] (tint (checkG g)) := by
 refine ACall.of_body Try.func14 rfl (by kernel_rfl) ?_
 simp only [entry, Try.ntmps14, tG]
 refine zU ?_
 repeat' (first|((first|(refine zT ?_;intro K' hK')|(refine zG ?_ ?_<;>(try refine zH ?_)<;>intro hguard<;>(try exact zX)<;>try intro K' hK'))<;>((try simp +contextual only [go_sem]);(repeat' first|(with_reducible refine hK' _ _ ?_;clear hK' K')|exact zY|with_reducible refine And.intro ?_ ?_|(with_reducible intro hpath;try exact zP)|(refine hK' _ _ ?_;clear hK' K')|fail);try refine zS ?_))|(refine zE ?_;refine hK _ _ ?_;clear hK K)|(refine zN ?_;try refine zS ?_)|refine zA ?_|(refine zB ?_;intro K hK)|(refine zC ?_ ?_<;>(try refine zH ?_)<;>intro hcond<;>try exact zX)|fail)
 ·
  simp [Rets, aret, Blk.cells, ty, Try.results14, ares, toT1, toT, borrow, borrow0, capCell, toTree0, tint, checkG]
  all_goals omega
 ·
  refine AWp.loopS (α:=Nat) 26 (fun i=>[(1,.c (.ptr 0 0)),(3,.c (.int .i64 (i : Int)))]) (fun i=>[.box [.int .i64 g.n, .slice (eRows g.es) .none]]) (fun i=>i ≤ g.es.length ∧ checkG g = checkE g.n g.es (g.es.length - i)) (fun i=>g.es.length - i) (0) (hk:=Weak.headL 1 26 [1, 3] zW) (h0:=?_) (round:=fun i hI=>?_)
  ·exact ⟨Nat.zero_le _, by simp only [checkG, Nat.sub_zero]; rw [if_neg (by omega)]⟩
  ·obtain ⟨hi, hx⟩ := hI
   by_cases hlt : i < g.es.length
   ·have es : g.es.length - i = (g.es.length - (i + 1)) + 1 := by omega
    have ei : g.es.length - (g.es.length - (i + 1) + 1) = i := by omega
    rw [es, checkE, ei] at hx
    repeat' (first|((first|(refine zT ?_;intro K' hK')|(refine zG ?_ ?_<;>(try refine zH ?_)<;>intro hguard<;>(try exact zX)<;>try intro K' hK'))<;>((try simp +contextual only [go_sem, eRows_len, Int.ofNat_lt]);(repeat' first|(with_reducible refine hK' _ _ ?_;clear hK' K')|(with_reducible refine zK (edge_ok g i hlt hl) ?_;try simp +contextual only [go_sem, eRows_len, Int.ofNat_lt])|exact zY|with_reducible refine And.intro ?_ ?_|(with_reducible intro hpath;try exact zP)|(refine hK' _ _ ?_;clear hK' K')|fail);try refine zS ?_))|(refine zE ?_;refine hK _ _ ?_;clear hK K)|(refine zN ?_;try refine zS ?_)|refine zA ?_|(refine zB ?_;intro K hK)|(refine zC ?_ ?_<;>(try refine zH ?_)<;>intro hcond<;>try exact zX)|fail)
    ·have hx2 : checkG g = edgeE g.n g.es i := by rw [hx, if_pos (by assumption)]
     simp [Rets, aret, Blk.cells, ty, Try.results14, ares, toT1, toT, borrow, borrow0, capCell, toTree0, tint, hx2]
    ·refine ⟨i + 1,Weak.headN 1 26 [1, 3] zW,?_,?_⟩
     ·exact ⟨hlt, by rw [hx, if_neg (by omega)]⟩
     ·omega
   ·have ei : i = g.es.length := by omega
    have h0 : checkG g = 0 := by rw [hx, ei, Nat.sub_self, checkE]
    refine zR (zc @eRows_len (zc @Int.ofNat_lt trivial)) trivial trivial ?_
    simp [Rets, aret, Blk.cells, ty, Try.results14, ares, toT1, toT, borrow, borrow0, capCell, toTree0, tint, h0]
 ·
  simp [Rets, aret, Blk.cells, ty, Try.results14, ares, toT1, toT, borrow, borrow0, capCell, toTree0, tint, checkG]
  all_goals omega
structure BS where
 time : Nat
 seen : List Nat
 low : List Nat
 opn : List Nat
 out : List (List Nat)
def insN (x : Nat) : List Nat → List Nat
 | [] => [x]
 | y :: l => if x ≤ y then x :: y :: l else y :: insN x l
def isortN : List Nat → List Nat
 | [] => []
 | x :: l => insN x (isortN l)
def atV (L : List (Nat × Nat)) (v : Nat) : List Nat := (List.range L.length).filter fun e => let p := L.getD e (0, 0); decide (p.1 ≠ p.2) && (decide (p.1 = v) || decide (p.2 = v))
def enterB (v : Nat) (s : BS) : BS := ⟨s.time + 1, s.seen.set v (s.time + 1), s.low.set v (s.time + 1), s.opn, s.out⟩
def closeB (v w mark : Nat) (s : BS) : BS :=
 if s.seen.getD v 0 ≤ s.low.getD w 0 then ⟨s.time, s.seen, s.low, s.opn.take mark, s.out ++ [isortN (s.opn.drop mark)]⟩ else s
def lowB (v x : Nat) (s : BS) : BS := ⟨s.time, s.seen, s.low.set v (min (s.low.getD v 0) x), s.opn, s.out⟩
def pushB (e : Nat) (s : BS) : BS := ⟨s.time, s.seen, s.low, s.opn ++ [e], s.out⟩
def stepB (L : List (Nat × Nat)) (rec : Nat → Int → BS → BS) (v : Nat) (by' : Int) (s : BS) (e : Nat) : BS :=
 let p := L.getD e (0, 0)
 let w := p.1 + p.2 - v
 if (e : Int) = by' then s
 else if s.seen.getD w 0 = 0 then
  let s1 := rec w e (pushB e s)
  closeB v w s.opn.length (lowB v (s1.low.getD w 0) s1)
 else if s.seen.getD w 0 < s.seen.getD v 0 then lowB v (s.seen.getD w 0) (pushB e s)
 else s
def visB (L : List (Nat × Nat)) : Nat → Nat → Int → BS → BS
 | 0, _, _, s => s
 | k + 1, v, by', s => (atV L v).foldl (stepB L (visB L k) v by') (enterB v s)
def loopsB (L : List (Nat × Nat)) : List (List Nat) := ((List.range L.length).filter fun e => let p := L.getD e (0, 0); decide (p.1 = p.2)).map fun e => [e]
def startB (L : List (Nat × Nat)) : BS := ⟨0, List.replicate 12 0, List.replicate 12 0, [], loopsB L⟩
def allB' (L : List (Nat × Nat)) (n : Nat) : BS := (List.range n).foldl (fun s v => if s.seen.getD v 0 = 0 then visB L 12 v (-1) s else s) (startB L)
def befN : List Nat → List Nat → Bool
 | [], [] => false
 | [], _ :: _ => true
 | _ :: _, [] => false
 | x :: a, y :: b => decide (x < y) || (decide (x = y) && befN a b)
def insL (x : List Nat) : List (List Nat) → List (List Nat)
 | [] => [x]
 | y :: l => if befN y x then y :: insL x l else x :: y :: l
def isortL : List (List Nat) → List (List Nat)
 | [] => []
 | x :: l => insL x (isortL l)
def blocksB (L : List (Nat × Nat)) (n : Nat) : List (List Nat) := isortL (allB' L n).out
end Go.Proofs.Ytgklecfiflhjmaa
