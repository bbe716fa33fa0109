/- A part of the proof. -/
import Derived.Test.YtgklecfiflhjmaaPart02
import Derived.Test.YtgklecfiflhjmaaLayerC
set_option linter.all false
set_option maxHeartbeats 4000000
set_option maxRecDepth 100000
namespace Go.Proofs.Ytgklecfiflhjmaa
open Go.Sp
theorem Vertex_ok (g : G) (v : Int) : ACall Try.prog 56 [tG g, tint v] (tbool (decide (0 ≤ v ∧ v < g.n))) := by
 refine ACall.of_body Try.func56 rfl (by kernel_rfl) ?_
 simp only [entry, Try.ntmps56, tG, tint]
 refine zU ?_
 repeat' (first|((first|(refine zT ?_;intro K' hK')|(refine zG ?_ ?_<;>(try refine zH ?_)<;>intro hguard<;>(try exact zX)<;>try intro K' hK'))<;>((try simp +contextual only [go_sem]);(repeat' first|(with_reducible refine hK' _ _ ?_;clear hK' K')|exact zY|with_reducible refine And.intro ?_ ?_|(with_reducible intro hpath;try exact zP)|(refine hK' _ _ ?_;clear hK' K')|fail);try refine zS ?_))|(refine zE ?_;refine hK _ _ ?_;clear hK K)|(refine zN ?_;try refine zS ?_)|refine zA ?_|(refine zB ?_;intro K hK)|(refine zC ?_ ?_<;>(try refine zH ?_)<;>intro hcond<;>try exact zX)|fail)
 all_goals
  simp [Rets, aret, Blk.cells, ty, Try.results56, ares, toT1, toT, borrow, borrow0, capCell, toTree0, tbool]
 all_goals omega
def edgeE (n : Int) (es : List E) (i : Nat) : Int :=
 match es[i]? with
 | none => 0
 | some x =>
  if ¬ (0 ≤ x.a ∧ x.a < n) ∨ ¬ (0 ≤ x.b ∧ x.b < n) ∨ x.m < 1 ∨ 50 < x.m then 2
  else if x.b < x.a then 9
  else match i with
   | 0 => 0
   | j + 1 => match es[j]? with
    | none => 0
    | some y => if x.a < y.a ∨ (x.a = y.a ∧ x.b ≤ y.b) then 9 else 0
theorem edge_ok (g : G) (i : Nat) (hi : i < g.es.length) (hl : g.es.length < 2 ^ 40) : ACall Try.prog 46 [tG g, tint i] (tint (edgeE g.n g.es i)) := by
 have e1 : g.es[i]? = some g.es[i] := List.getElem?_eq_getElem hi
 have e2 := eRows_get e1
 cases i with
 | zero =>
  refine ACall.of_body Try.func46 rfl (by kernel_rfl) ?_
  simp only [entry, Try.ntmps46, tG, tint]
  refine zU ?_
  repeat' (first|((first|(refine zT ?_;intro K' hK')|(refine zG ?_ ?_<;>(try refine zH ?_)<;>intro hguard<;>(try exact zX)<;>try intro K' hK'))<;>((try simp +contextual only [go_sem, e2, Int.toNat_natCast, Int.toNat_zero, Int.natCast_zero]);(repeat' first|(with_reducible refine hK' _ _ ?_;clear hK' K')|(with_reducible refine zK (Vertex_ok g _) ?_;try simp +contextual only [go_sem, e2, Int.toNat_natCast, Int.toNat_zero, Int.natCast_zero])|exact zY|with_reducible refine And.intro ?_ ?_|(with_reducible intro hpath;try exact zP)|(refine hK' _ _ ?_;clear hK' K')|fail);try refine zS ?_))|(refine zE ?_;refine hK _ _ ?_;clear hK K)|(refine zN ?_;try refine zS ?_)|refine zA ?_|(refine zB ?_;intro K hK)|(refine zC ?_ ?_<;>(try refine zH ?_)<;>intro hcond<;>try exact zX)|fail)
  all_goals
   simp [Rets, aret, Blk.cells, ty, Try.results46, ares, toT1, toT, borrow, borrow0, capCell, toTree0, tint, edgeE, e1]
  all_goals omega
 | succ j =>
  have hj : j < g.es.length := by omega
  have f1 : g.es[j]? = some g.es[j] := List.getElem?_eq_getElem hj
  have f2 := eRows_get f1
  have e4 : ((j + 1 : Nat) : Int) - 1 = j := by omega
  have e5 : ((j + 1 : Nat) : Int).toNat = j + 1 := by omega
  have e6 : ((j : Nat) : Int).toNat = j := by omega
  refine ACall.of_body Try.func46 rfl (by kernel_rfl) ?_
  simp only [entry, Try.ntmps46, tG, tint]
  refine zU ?_
  repeat' (first|((first|(refine zT ?_;intro K' hK')|(refine zG ?_ ?_<;>(try refine zH ?_)<;>intro hguard<;>(try exact zX)<;>try intro K' hK'))<;>((try simp +contextual only [go_sem, e2, e4, e5, e6, f2]);(repeat' first|(with_reducible refine hK' _ _ ?_;clear hK' K')|(with_reducible refine zK (Vertex_ok g _) ?_;try simp +contextual only [go_sem, e2, e4, e5, e6, f2])|exact zY|with_reducible refine And.intro ?_ ?_|(with_reducible intro hpath;try exact zP)|(refine hK' _ _ ?_;clear hK' K')|fail);try refine zS ?_))|(refine zE ?_;refine hK _ _ ?_;clear hK K)|(refine zN ?_;try refine zS ?_)|refine zA ?_|(refine zB ?_;intro K hK)|(refine zC ?_ ?_<;>(try refine zH ?_)<;>intro hcond<;>try exact zX)|fail)
  all_goals
   simp [Rets, aret, Blk.cells, ty, Try.results46, ares, toT1, toT, borrow, borrow0, capCell, toTree0, tint, edgeE, e1, f1]
  all_goals omega
def checkE (n : Int) (es : List E) : Nat → Int
 | 0 => 0
 | k + 1 => if edgeE n es (es.length - (k + 1)) ≠ 0 then edgeE n es (es.length - (k + 1)) else checkE n es k
def checkG (g : G) : Int := if g.n < 1 ∨ 12 < g.n then 2 else checkE g.n g.es g.es.length
theorem CheckR_ok (g : G) (hl : g.es.length < 2 ^ 40) : ACall Try.prog 14 [tG g] (tint (checkG g)) := by
 refine ACall.of_body Try.func14 rfl (by kernel_rfl) ?_
 simp only [entry, Try.ntmps14, tG]
 refine zU ?_
 repeat' (first|((first|(refine zT ?_;intro K' hK')|(refine zG ?_ ?_<;>(try refine zH ?_)<;>intro hguard<;>(try exact zX)<;>try intro K' hK'))<;>((try simp +contextual only [go_sem]);(repeat' first|(with_reducible refine hK' _ _ ?_;clear hK' K')|exact zY|with_reducible refine And.intro ?_ ?_|(with_reducible intro hpath;try exact zP)|(refine hK' _ _ ?_;clear hK' K')|fail);try refine zS ?_))|(refine zE ?_;refine hK _ _ ?_;clear hK K)|(refine zN ?_;try refine zS ?_)|refine zA ?_|(refine zB ?_;intro K hK)|(refine zC ?_ ?_<;>(try refine zH ?_)<;>intro hcond<;>try exact zX)|fail)
 ·
  simp [Rets, aret, Blk.cells, ty, Try.results14, ares, toT1, toT, borrow, borrow0, capCell, toTree0, tint, checkG]
  all_goals omega
 ·
  refine AWp.loopS (α:=Nat) 26 (fun i=>[(1,.c (.ptr 0 0)),(3,.c (.int .i64 (i : Int)))]) (fun i=>[.box [.int .i64 g.n, .slice (eRows g.es) .none]]) (fun i=>i ≤ g.es.length ∧ checkG g = checkE g.n g.es (g.es.length - i)) (fun i=>g.es.length - i) (0) (hk:=Weak.headL 1 26 [1, 3] zW) (h0:=?_) (round:=fun i hI=>?_)
  ·exact ⟨Nat.zero_le _, by simp only [checkG, Nat.sub_zero]; rw [if_neg (by omega)]⟩
  ·obtain ⟨hi, hx⟩ := hI
   by_cases hlt : i < g.es.length
   ·have es : g.es.length - i = (g.es.length - (i + 1)) + 1 := by omega
    have ei : g.es.length - (g.es.length - (i + 1) + 1) = i := by omega
    rw [es, checkE, ei] at hx
    repeat' (first|((first|(refine zT ?_;intro K' hK')|(refine zG ?_ ?_<;>(try refine zH ?_)<;>intro hguard<;>(try exact zX)<;>try intro K' hK'))<;>((try simp +contextual only [go_sem, eRows_len, Int.ofNat_lt]);(repeat' first|(with_reducible refine hK' _ _ ?_;clear hK' K')|(with_reducible refine zK (edge_ok g i hlt hl) ?_;try simp +contextual only [go_sem, eRows_len, Int.ofNat_lt])|exact zY|with_reducible refine And.intro ?_ ?_|(with_reducible intro hpath;try exact zP)|(refine hK' _ _ ?_;clear hK' K')|fail);try refine zS ?_))|(refine zE ?_;refine hK _ _ ?_;clear hK K)|(refine zN ?_;try refine zS ?_)|refine zA ?_|(refine zB ?_;intro K hK)|(refine zC ?_ ?_<;>(try refine zH ?_)<;>intro hcond<;>try exact zX)|fail)
    ·have hx2 : checkG g = edgeE g.n g.es i := by rw [hx, if_pos (by assumption)]
     simp [Rets, aret, Blk.cells, ty, Try.results14, ares, toT1, toT, borrow, borrow0, capCell, toTree0, tint, hx2]
    ·refine ⟨i + 1,Weak.headN 1 26 [1, 3] zW,?_,?_⟩
     ·exact ⟨hlt, by rw [hx, if_neg (by omega)]⟩
     ·omega
   ·have ei : i = g.es.length := by omega
    have h0 : checkG g = 0 := by rw [hx, ei, Nat.sub_self, checkE]
    refine zR (zc @eRows_len (zc @Int.ofNat_lt trivial)) trivial trivial ?_
    simp [Rets, aret, Blk.cells, ty, Try.results14, ares, toT1, toT, borrow, borrow0, capCell, toTree0, tint, h0]
 ·
  simp [Rets, aret, Blk.cells, ty, Try.results14, ares, toT1, toT, borrow, borrow0, capCell, toTree0, tint, checkG]
  all_goals omega
structure BS where
 time : Nat
 seen : List Nat
 low : List Nat
 opn : List Nat
 out : List (List Nat)
def insN (x : Nat) : List Nat → List Nat
 | [] => [x]
 | y :: l => if x ≤ y then x :: y :: l else y :: insN x l
def isortN : List Nat → List Nat
 | [] => []
 | x :: l => insN x (isortN l)
def atV (L : List (Nat × Nat)) (v : Nat) : List Nat := (List.range L.length).filter fun e => let p := L.getD e (0, 0); decide (p.1 ≠ p.2) && (decide (p.1 = v) || decide (p.2 = v))
def enterB (v : Nat) (s : BS) : BS := ⟨s.time + 1, s.seen.set v (s.time + 1), s.low.set v (s.time + 1), s.opn, s.out⟩
def closeB (v w mark : Nat) (s : BS) : BS :=
 if s.seen.getD v 0 ≤ s.low.getD w 0 then ⟨s.time, s.seen, s.low, s.opn.take mark, s.out ++ [isortN (s.opn.drop mark)]⟩ else s
def lowB (v x : Nat) (s : BS) : BS := ⟨s.time, s.seen, s.low.set v (min (s.low.getD v 0) x), s.opn, s.out⟩
def pushB (e : Nat) (s : BS) : BS := ⟨s.time, s.seen, s.low, s.opn ++ [e], s.out⟩
def stepB (L : List (Nat × Nat)) (rec : Nat → Int → BS → BS) (v : Nat) (by' : Int) (s : BS) (e : Nat) : BS :=
 let p := L.getD e (0, 0)
 let w := p.1 + p.2 - v
 if (e : Int) = by' then s
 else if s.seen.getD w 0 = 0 then
  let s1 := rec w e (pushB e s)
  closeB v w s.opn.length (lowB v (s1.low.getD w 0) s1)
 else if s.seen.getD w 0 < s.seen.getD v 0 then lowB v (s.seen.getD w 0) (pushB e s)
 else s
def visB (L : List (Nat × Nat)) : Nat → Nat → Int → BS → BS
 | 0, _, _, s => s
 | k + 1, v, by', s => (atV L v).foldl (stepB L (visB L k) v by') (enterB v s)
def loopsB (L : List (Nat × Nat)) : List (List Nat) := ((List.range L.length).filter fun e => let p := L.getD e (0, 0); decide (p.1 = p.2)).map fun e => [e]
def startB (L : List (Nat × Nat)) : BS := ⟨0, List.replicate 12 0, List.replicate 12 0, [], loopsB L⟩
def allB' (L : List (Nat × Nat)) (n : Nat) : BS := (List.range n).foldl (fun s v => if s.seen.getD v 0 = 0 then visB L 12 v (-1) s else s) (startB L)
def befN : List Nat → List Nat → Bool
 | [], [] => false
 | [], _ :: _ => true
 | _ :: _, [] => false
 | x :: a, y :: b => decide (x < y) || (decide (x = y) && befN a b)
def insL (x : List Nat) : List (List Nat) → List (List Nat)
 | [] => [x]
 | y :: l => if befN y x then y :: insL x l else x :: y :: l
def isortL : List (List Nat) → List (List Nat)
 | [] => []
 | x :: l => insL x (isortL l)
def blocksB (L : List (Nat × Nat)) (n : Nat) : List (List Nat) := isortL (allB' L n).out
theorem SizeR_ok (g : G) (hs : (endsL g.es).length < 2 ^ 40) (hl : g.es.length < 2 ^ 40) (hm : ∀ e, e ∈ g.es → e.m < 2 ^ 40) : ACall Try.prog 31 [tG g] (tint (endsL g.es).length) := by
 refine ACall.of_body Try.func31 rfl (by kernel_rfl) ?_
 simp only [entry, Try.ntmps31, tG]
 refine zU ?_
 repeat' (first|((first|(refine zT ?_;intro K' hK')|(refine zG ?_ ?_<;>(try refine zH ?_)<;>intro hguard<;>(try exact zX)<;>try intro K' hK'))<;>((try simp +contextual only [go_sem, pRows_len]);(repeat' first|(with_reducible refine hK' _ _ ?_;clear hK' K')|(with_reducible refine zK (EndsR_ok g hs hl hm) ?_;try simp +contextual only [go_sem, pRows_len])|exact zY|with_reducible refine And.intro ?_ ?_|(with_reducible intro hpath;try exact zP)|(refine hK' _ _ ?_;clear hK' K')|fail);try refine zS ?_))|(refine zE ?_;refine hK _ _ ?_;clear hK K)|(refine zN ?_;try refine zS ?_)|refine zA ?_|(refine zB ?_;intro K hK)|(refine zC ?_ ?_<;>(try refine zH ?_)<;>intro hcond<;>try exact zX)|fail)
 all_goals
  simp [Rets, aret, Blk.cells, ty, Try.results31, ares, toT1, toT, borrow, borrow0, capCell, toTree0, tint]
def lastE (es : List E) : Nat → Int × Int
 | 0 => (-1, -1)
 | j + 1 => match es[j]? with
  | some y => (y.a, y.b)
  | none => (-1, -1)
def badE (n : Int) (x : E) : Prop := ¬ (0 ≤ x.a ∧ x.a < n) ∨ ¬ (0 ≤ x.b ∧ x.b < n) ∨ x.m < 1 ∨ 50 < x.m
theorem edgeE_bad {n : Int} {es : List E} {i : Nat} (hi : i < es.length) (h : badE n es[i]) : edgeE n es i = 2 := by
 unfold edgeE; rw [List.getElem?_eq_getElem hi]; exact if_pos h
theorem edgeE_nine {n : Int} {es : List E} {i : Nat} (hi : i < es.length) (h : ¬ badE n es[i]) (h2 : es[i].b < es[i].a ∨ 0 ≤ orI [cmpI (lastE es i).1 es[i].a, cmpI (lastE es i).2 es[i].b]) : edgeE n es i = 9 := by
 unfold edgeE; rw [List.getElem?_eq_getElem hi]
 simp only
 unfold badE at h
 rw [if_neg h]
 by_cases hb : es[i].b < es[i].a
 ·rw [if_pos hb]
 ·rw [if_neg hb]
  rcases h2 with h2 | h2
  ·exact absurd h2 hb
  ·cases i with
   | zero => exfalso; simp only [lastE, orI, cmpI] at h2; (repeat' split at h2) <;> omega
   | succ j =>
    have hj : j < es.length := by omega
    simp only [lastE, List.getElem?_eq_getElem hj, orI, cmpI] at h2 ⊢
    rw [if_pos]
    (repeat' split at h2) <;> omega
theorem edgeE_zero {n : Int} {es : List E} {i : Nat} (hi : i < es.length) (h : ¬ badE n es[i]) (h1 : ¬ es[i].b < es[i].a) (h2 : ¬ 0 ≤ orI [cmpI (lastE es i).1 es[i].a, cmpI (lastE es i).2 es[i].b]) : edgeE n es i = 0 := by
 unfold edgeE; rw [List.getElem?_eq_getElem hi]
 simp only
 unfold badE at h
 rw [if_neg h, if_neg h1]
 cases i with
 | zero => rfl
 | succ j =>
  have hj : j < es.length := by omega
  simp only [lastE, List.getElem?_eq_getElem hj, orI, cmpI] at h2 ⊢
  rw [if_neg]
  (repeat' split at h2) <;> omega
theorem Check_ok (g : G) (hl : g.es.length < 2 ^ 40) : ACall Try.prog 43 [tG g] (tint (checkG g)) := by
 refine ACall.of_body Try.func43 rfl (by kernel_rfl) ?_
 simp only [entry, Try.ntmps43, tG]
 refine zU ?_
 repeat' (first|((first|(refine zT ?_;intro K' hK')|(refine zG ?_ ?_<;>(try refine zH ?_)<;>intro hguard<;>(try exact zX)<;>try intro K' hK'))<;>((try simp +contextual only [go_sem, eRows_len]);(repeat' first|(with_reducible refine hK' _ _ ?_;clear hK' K')|exact zY|with_reducible refine And.intro ?_ ?_|(with_reducible intro hpath;try exact zP)|(refine hK' _ _ ?_;clear hK' K')|fail);try refine zS ?_))|(refine zE ?_;refine hK _ _ ?_;clear hK K)|(refine zN ?_;try refine zS ?_)|refine zA ?_|(refine zB ?_;intro K hK)|(refine zC ?_ ?_<;>(try refine zH ?_)<;>intro hcond<;>try exact zX)|fail)
 ·
  simp [Rets, aret, Blk.cells, ty, Try.results43, ares, toT1, toT, borrow, borrow0, capCell, toTree0, tint, checkG]
  all_goals omega
 ·
  refine AWp.loopS (α:=Nat) 67 (fun i=>[(1,.c (.ptr 0 0)),(3,.c (.ptr 1 0)),(17,.c (.slice (eRows g.es) .none)),(18,.c (.int .i64 g.es.length)),(19,.c (.int .i64 (i : Int)))]) (fun i=>[.box [.int .i64 g.n, .slice (eRows g.es) .none], .box [.int .i64 (lastE g.es i).1, .int .i64 (lastE g.es i).2]]) (fun i=>i ≤ g.es.length ∧ checkG g = checkE g.n g.es (g.es.length - i)) (fun i=>g.es.length - i) (0) (hk:=Weak.headL 2 67 [1, 3, 17, 18, 19] zW) (h0:=?_) (round:=fun i hI=>?_)
  ·exact ⟨Nat.zero_le _, by simp only [checkG, Nat.sub_zero]; rw [if_neg (by omega)]⟩
  ·obtain ⟨hi, hx⟩ := hI
   by_cases hlt : i < g.es.length
   ·have es : g.es.length - i = (g.es.length - (i + 1)) + 1 := by omega
    have ei : g.es.length - (g.es.length - (i + 1) + 1) = i := by omega
    rw [es, checkE, ei] at hx
    have e1 : g.es[i]? = some g.es[i] := List.getElem?_eq_getElem hlt
    have e2 := eRows_get e1
    repeat' (first|((first|(refine zT ?_;intro K' hK')|(refine zG ?_ ?_<;>(try refine zH ?_)<;>intro hguard<;>(try exact zX)<;>try intro K' hK'))<;>((try simp +contextual only [go_sem, e2, Int.toNat_natCast]);(repeat' first|(with_reducible refine hK' _ _ ?_;clear hK' K')|((with_reducible first|refine zK (vertex_ok _ _) ?_|refine zK (compare_ok _ _ _ _) ?_);try simp +contextual only [go_sem, e2, Int.toNat_natCast])|exact zY|with_reducible refine And.intro ?_ ?_|(with_reducible intro hpath;try exact zP)|(refine hK' _ _ ?_;clear hK' K')|fail);try refine zS ?_))|(refine zE ?_;refine hK _ _ ?_;clear hK K)|(refine zN ?_;try refine zS ?_)|refine zA ?_|(refine zB ?_;intro K hK)|(refine zC ?_ ?_<;>(try refine zH ?_)<;>intro hcond<;>try exact zX)|fail)
    ·have h2 : checkG g = 2 := by rw [hx, edgeE_bad hlt (by unfold badE; omega), if_pos (by decide)]
     simp [Rets, aret, Blk.cells, ty, Try.results43, ares, toT1, toT, borrow, borrow0, capCell, toTree0, tint, h2]
    ·have h9 : checkG g = 9 := by rw [hx, edgeE_nine hlt (by unfold badE; omega) (by first | exact .inl (by assumption) | exact .inr (by assumption)), if_pos (by decide)]
     simp [Rets, aret, Blk.cells, ty, Try.results43, ares, toT1, toT, borrow, borrow0, capCell, toTree0, tint, h9]
    ·have h0 : edgeE g.n g.es i = 0 := edgeE_zero hlt (by unfold badE; omega) (by omega) (by omega)
     refine ⟨i + 1,Weak.headN 2 67 [1, 3, 17, 18, 19] zW (e1:=by first|rfl|(simp [mask,keepL, lastE, e1];done)|(simp [mask,keepL, lastE, e1]<;>simp_all<;>omega)) (e2:=by first|rfl|(simp [mask,keepL, lastE, e1];done)|(simp [mask,keepL, lastE, e1]<;>simp_all<;>omega)),?_,?_⟩
     ·exact ⟨hlt, by rw [hx, if_neg (by omega)]⟩
     ·omega
    ·have h9 : checkG g = 9 := by rw [hx, edgeE_nine hlt (by unfold badE; omega) (by first | exact .inl (by assumption) | exact .inr (by assumption)), if_pos (by decide)]
     simp [Rets, aret, Blk.cells, ty, Try.results43, ares, toT1, toT, borrow, borrow0, capCell, toTree0, tint, h9]
    ·have h2 : checkG g = 2 := by rw [hx, edgeE_bad hlt (by unfold badE; omega), if_pos (by decide)]
     simp [Rets, aret, Blk.cells, ty, Try.results43, ares, toT1, toT, borrow, borrow0, capCell, toTree0, tint, h2]
    ·have h2 : checkG g = 2 := by rw [hx, edgeE_bad hlt (by unfold badE; omega), if_pos (by decide)]
     simp [Rets, aret, Blk.cells, ty, Try.results43, ares, toT1, toT, borrow, borrow0, capCell, toTree0, tint, h2]
    ·have h2 : checkG g = 2 := by rw [hx, edgeE_bad hlt (by unfold badE; omega), if_pos (by decide)]
     simp [Rets, aret, Blk.cells, ty, Try.results43, ares, toT1, toT, borrow, borrow0, capCell, toTree0, tint, h2]
   ·have ei : i = g.es.length := by omega
    have h0 : checkG g = 0 := by rw [hx, ei, Nat.sub_self, checkE]
    refine zR (zc @eRows_len (zc @Int.ofNat_lt trivial)) trivial trivial ?_
    simp [Rets, aret, Blk.cells, ty, Try.results43, ares, toT1, toT, borrow, borrow0, capCell, toTree0, tint, h0]
 ·
  simp [Rets, aret, Blk.cells, ty, Try.results43, ares, toT1, toT, borrow, borrow0, capCell, toTree0, tint, checkG]
  all_goals omega
def unseen (s : BS) : Nat := s.seen.count 0
structure BOK (E : Nat) (s : BS) : Prop where
 ls : s.seen.length = 12
 ll : s.low.length = 12
 tm : s.time + unseen s = 12
 sb : ∀ x, x ∈ s.seen → x ≤ s.time
 lb : ∀ x, x ∈ s.low → x ≤ s.time
 op : ∀ e, e ∈ s.opn → e < E
def BLe (E : Nat) (K U : Int) (s : BS) : Prop := (s.opn.length : Int) ≤ K + E * s.time ∧ (s.out.length : Int) ≤ U + E * s.time
theorem count_set {l : List Nat} {i x : Nat} (hi : i < l.length) (h0 : l.getD i 0 = 0) (hx : x ≠ 0) : (l.set i x).count 0 + 1 = l.count 0 := by
 have h1 : l[i] = 0 := by rw [List.getD_eq_getElem?_getD, List.getElem?_eq_getElem hi] at h0; exact h0
 rw [List.count_set hi, h1]
 have h2 : 0 < l.count 0 := List.count_pos_iff.2 (h1 ▸ List.getElem_mem hi)
 simp only [beq_iff_eq, hx, if_false, beq_self_eq_true, if_true]
 omega
theorem mem_set_le {l : List Nat} {i x b : Nat} (h : ∀ y, y ∈ l → y ≤ b) (hx : x ≤ b) : ∀ y, y ∈ l.set i x → y ≤ b := fun y hy => by
 rcases List.mem_or_eq_of_mem_set hy with hy | rfl
 ·exact h y hy
 ·exact hx
theorem getD_le {l : List Nat} {i b : Nat} (h : ∀ y, y ∈ l → y ≤ b) : l.getD i 0 ≤ b := by
 rw [List.getD_eq_getElem?_getD]
 cases hi : l[i]? with
 | none => exact Nat.zero_le _
 | some y => exact h y (List.mem_of_getElem? hi)
section
variable {E : Nat} {s : BS} {v w : Nat}
theorem enterB_ok (h : BOK E s) (hv : v < 12) (h0 : s.seen.getD v 0 = 0) : BOK E (enterB v s) ∧ unseen (enterB v s) + 1 = unseen s := by
 have hc := count_set (l := s.seen) (i := v) (x := s.time + 1) (by rw [h.ls]; exact hv) h0 (by omega)
 refine ⟨⟨by simp [enterB, h.ls], by simp [enterB, h.ll], ?_, ?_, ?_, h.op⟩, hc⟩
 ·have := h.tm
  show s.time + 1 + (s.seen.set v (s.time + 1)).count 0 = 12
  unfold unseen at this
  omega
 ·exact mem_set_le (fun y hy => by have := h.sb y hy; show y ≤ s.time + 1; omega) (Nat.le_refl _)
 ·exact mem_set_le (fun y hy => by have := h.lb y hy; show y ≤ s.time + 1; omega) (Nat.le_refl _)
theorem lowB_ok (h : BOK E s) {x : Nat} (hx : x ≤ s.time) : BOK E (lowB v x s) :=
 ⟨h.ls, by simp [lowB, h.ll], h.tm, h.sb, mem_set_le h.lb (by show min _ _ ≤ s.time; omega), h.op⟩
theorem pushB_ok (h : BOK E s) {e : Nat} (he : e < E) : BOK E (pushB e s) :=
 ⟨h.ls, h.ll, h.tm, h.sb, h.lb, fun x hx => by
  rcases List.mem_append.1 hx with hx | hx
  ·exact h.op x hx
  ·rw [List.mem_singleton] at hx; omega⟩
theorem closeB_ok (h : BOK E s) {m : Nat} : BOK E (closeB v w m s) := by
 unfold closeB
 split
 ·exact ⟨h.ls, h.ll, h.tm, h.sb, h.lb, fun x hx => h.op x (List.mem_of_mem_take hx)⟩
 ·exact h
theorem closeB_time (m : Nat) : (closeB v w m s).time = s.time ∧ (closeB v w m s).seen = s.seen := by
 unfold closeB; split <;> exact ⟨rfl, rfl⟩
theorem closeB_len (m : Nat) : (closeB v w m s).opn.length ≤ s.opn.length ∧ (closeB v w m s).out.length ≤ s.out.length + 1 := by
 unfold closeB
 split
 ·simp only [List.length_take, List.length_append, List.length_cons, List.length_nil]; omega
 ·omega
end
theorem atV_mem {L : List (Nat × Nat)} {v e : Nat} (h : e ∈ atV L v) : e < L.length ∧ (L.getD e (0, 0)).1 ≠ (L.getD e (0, 0)).2 ∧ ((L.getD e (0, 0)).1 = v ∨ (L.getD e (0, 0)).2 = v) := by
 unfold atV at h
 simp only [List.mem_filter, List.mem_range, Bool.and_eq_true, Bool.or_eq_true, decide_eq_true_eq] at h
 exact ⟨h.1, h.2.1, h.2.2⟩
theorem atV_len (L : List (Nat × Nat)) (v : Nat) : (atV L v).length ≤ L.length := Nat.le_trans (List.length_filter_le _ _) (by simp)
theorem other_lt {L : List (Nat × Nat)} (hL : ∀ p, p ∈ L → p.1 < 12 ∧ p.2 < 12) {v e : Nat} (h : e ∈ atV L v) : (L.getD e (0, 0)).1 + (L.getD e (0, 0)).2 - v < 12 := by
 obtain ⟨h1, h2, h3⟩ := atV_mem h
 have := hL (L.getD e (0, 0)) (by rw [List.getD_eq_getElem?_getD, List.getElem?_eq_getElem h1]; exact List.getElem_mem _)
 omega
structure VisR (E : Nat) (K U : Int) (s s' : BS) : Prop where
 ok : BOK E s'
 le : BLe E K U s'
 tm : s.time ≤ s'.time
 keep : ∀ w, s.seen.getD w 0 ≠ 0 → s'.seen.getD w 0 = s.seen.getD w 0
theorem stepB_ok {L : List (Nat × Nat)} (hL : ∀ p, p ∈ L → p.1 < 12 ∧ p.2 < 12) {rec : Nat → Int → BS → BS} {v : Nat} {by' : Int} {s : BS} {e i : Nat} {K U : Int} (h : BOK L.length s) (he : e ∈ atV L v) (hv : s.seen.getD v 0 ≠ 0)
  (hb : (s.opn.length : Int) ≤ K + L.length * (s.time - 1) + i ∧ (s.out.length : Int) ≤ U + L.length * (s.time - 1) + i)
  (hrec : ∀ (w : Nat) (s1 : BS) (K1 U1 : Int), w < 12 → s1.seen.getD w 0 = 0 → s1.seen = s.seen → s1.time = s.time → BOK L.length s1 → BLe L.length K1 U1 s1 → VisR L.length K1 U1 s1 (rec w e s1)) :
  let s' := stepB L rec v by' s e
  BOK L.length s' ∧ ((s'.opn.length : Int) ≤ K + L.length * (s'.time - 1) + (i + 1 : Nat) ∧ (s'.out.length : Int) ≤ U + L.length * (s'.time - 1) + (i + 1 : Nat)) ∧ s.time ≤ s'.time ∧ ∀ w, s.seen.getD w 0 ≠ 0 → s'.seen.getD w 0 = s.seen.getD w 0 := by
 have hw := other_lt hL he
 have hel := (atV_mem he).1
 intro s'
 show BOK L.length (stepB L rec v by' s e) ∧ (((stepB L rec v by' s e).opn.length : Int) ≤ K + L.length * ((stepB L rec v by' s e).time - 1) + (i + 1 : Nat) ∧ ((stepB L rec v by' s e).out.length : Int) ≤ U + L.length * ((stepB L rec v by' s e).time - 1) + (i + 1 : Nat)) ∧ s.time ≤ (stepB L rec v by' s e).time ∧ ∀ w, s.seen.getD w 0 ≠ 0 → (stepB L rec v by' s e).seen.getD w 0 = s.seen.getD w 0
 unfold stepB
 simp only
 generalize (L.getD e (0, 0)).1 + (L.getD e (0, 0)).2 - v = w at *
 split
 ·exact ⟨h, by omega, Nat.le_refl _, fun _ _ => by first | rfl | trivial⟩
 split
 ·rename_i h0
  have hp := pushB_ok h hel
  have r := hrec w (pushB e s) (K - L.length + i + 1) (U - L.length + i) hw h0 rfl rfl hp (by
   have e1 : (pushB e s).opn.length = s.opn.length + 1 := by simp [pushB]
   have e2 : (pushB e s).out = s.out := rfl
   have e3 : (pushB e s).time = s.time := rfl
   unfold BLe
   rw [e1, e2, e3]
   have e4 : (L.length : Int) * ((s.time : Int) - 1) = L.length * s.time - L.length := by rw [Int.mul_sub, Int.mul_one]
   rw [e4] at hb
   refine ⟨by omega, by omega⟩)
  have hlow : ((rec w e (pushB e s)).low.getD w 0) ≤ (rec w e (pushB e s)).time := getD_le r.ok.lb
  have hl := lowB_ok (v := v) r.ok hlow
  have hc := closeB_ok (v := v) (w := w) hl (m := s.opn.length)
  have ht := closeB_time (v := v) (w := w) (s := lowB v ((rec w e (pushB e s)).low.getD w 0) (rec w e (pushB e s))) s.opn.length
  have hlen := closeB_len (v := v) (w := w) (s := lowB v ((rec w e (pushB e s)).low.getD w 0) (rec w e (pushB e s))) s.opn.length
  have hle := r.le
  unfold BLe at hle
  refine ⟨hc, ?_, ?_, fun u hu => ?_⟩
  ·rw [ht.1]
   have e5 : (lowB v ((rec w e (pushB e s)).low.getD w 0) (rec w e (pushB e s))).time = (rec w e (pushB e s)).time := rfl
   have e6 : (lowB v ((rec w e (pushB e s)).low.getD w 0) (rec w e (pushB e s))).opn = (rec w e (pushB e s)).opn := rfl
   have e7 : (lowB v ((rec w e (pushB e s)).low.getD w 0) (rec w e (pushB e s))).out = (rec w e (pushB e s)).out := rfl
   rw [e5]
   rw [e6, e7] at hlen
   have e4 : (L.length : Int) * (((rec w e (pushB e s)).time : Int) - 1) = L.length * (rec w e (pushB e s)).time - L.length := by rw [Int.mul_sub, Int.mul_one]
   rw [e4]
   refine ⟨by omega, by omega⟩
  ·rw [ht.1]; exact r.tm
  ·rw [ht.2]; exact r.keep u hu
 split
 ·rename_i h0 h1
  refine ⟨lowB_ok (pushB_ok h hel) (getD_le h.sb), ?_, Nat.le_refl _, fun _ _ => by first | rfl | trivial⟩
  have e1 : (lowB v (s.seen.getD w 0) (pushB e s)).opn.length = s.opn.length + 1 := by simp [lowB, pushB]
  have e2 : (lowB v (s.seen.getD w 0) (pushB e s)).out = s.out := rfl
  have e3 : (lowB v (s.seen.getD w 0) (pushB e s)).time = s.time := rfl
  rw [e1, e2, e3]
  refine ⟨by omega, by omega⟩
 ·exact ⟨h, by omega, Nat.le_refl _, fun _ _ => by first | rfl | trivial⟩
structure Mid (L : List (Nat × Nat)) (v : Nat) (K U : Int) (s : BS) (i : Nat) (si : BS) : Prop where
 ok : BOK L.length si
 b1 : (si.opn.length : Int) ≤ K + L.length * (si.time - 1) + i
 b2 : (si.out.length : Int) ≤ U + L.length * (si.time - 1) + i
 tm : s.time + 1 ≤ si.time
 keep : ∀ w, (enterB v s).seen.getD w 0 ≠ 0 → si.seen.getD w 0 = (enterB v s).seen.getD w 0
 seen : si.seen.getD v 0 ≠ 0
theorem enterB_seen {E : Nat} {s : BS} {v : Nat} (h : BOK E s) (hv : v < 12) : (enterB v s).seen.getD v 0 ≠ 0 := by
 unfold enterB
 simp only
 rw [List.getD_eq_getElem?_getD, List.getElem?_set_self (by rw [h.ls]; exact hv)]
 simp
theorem mid_ok {L : List (Nat × Nat)} (hL : ∀ p, p ∈ L → p.1 < 12 ∧ p.2 < 12) {k v : Nat} {by' : Int} {s : BS} {K U : Int} (ih : ∀ (v : Nat) (by' : Int) (s : BS) (K U : Int), v < 12 → s.seen.getD v 0 = 0 → unseen s ≤ k → BOK L.length s → BLe L.length K U s → VisR L.length K U s (visB L k v by' s))
  (hv : v < 12) (h0 : s.seen.getD v 0 = 0) (hu : unseen s ≤ k + 1) (h : BOK L.length s) (hb : BLe L.length K U s) : ∀ (i : Nat), i ≤ (atV L v).length → Mid L v K U s i (((atV L v).take i).foldl (stepB L (visB L k) v by') (enterB v s)) := by
 obtain ⟨h1, h2⟩ := enterB_ok h hv h0
 have hsv := enterB_seen h hv
 intro i
 induction i with
 | zero =>
  intro _
  simp only [List.take_zero, List.foldl_nil]
  have e3 : (((enterB v s).time : Nat) : Int) - 1 = s.time := by show ((s.time + 1 : Nat) : Int) - 1 = _; omega
  refine ⟨h1, ?_, ?_, Nat.le_refl _, fun _ _ => rfl, hsv⟩
  ·rw [e3]; have := hb.1; show (s.opn.length : Int) ≤ _; omega
  ·rw [e3]; have := hb.2; show (s.out.length : Int) ≤ _; omega
 | succ i ihi =>
  intro hi
  obtain ⟨q1, q2, q2', q3, q4, q5⟩ := ihi (by omega)
  rw [List.take_succ_eq_append_getElem (by omega), List.foldl_append]
  simp only [List.foldl_cons, List.foldl_nil]
  generalize ((atV L v).take i).foldl (stepB L (visB L k) v by') (enterB v s) = si at *
  have r := stepB_ok (rec := visB L k) (by' := by') hL q1 (List.getElem_mem (show i < (atV L v).length by omega)) q5 ⟨q2, q2'⟩ (fun w s1 K1 U1 hw hw0 es et ok le => by
   have hun : unseen s1 ≤ k := by
    have a1 := ok.tm
    have a2 := h1.tm
    rw [et] at a1
    have e4 : (enterB v s).time = s.time + 1 := rfl
    omega
   exact ih w _ s1 K1 U1 hw hw0 hun ok le)
  exact ⟨r.1, r.2.1.1, r.2.1.2, by omega, fun w hw => by rw [r.2.2.2 w (by rw [q4 w hw]; exact hw), q4 w hw], by rw [r.2.2.2 v q5]; exact q5⟩
theorem visB_ok {L : List (Nat × Nat)} (hL : ∀ p, p ∈ L → p.1 < 12 ∧ p.2 < 12) : ∀ (k v : Nat) (by' : Int) (s : BS) (K U : Int), v < 12 → s.seen.getD v 0 = 0 → unseen s ≤ k → BOK L.length s → BLe L.length K U s → VisR L.length K U s (visB L k v by' s) := by
 intro k
 induction k with
 | zero =>
  intro v by' s K U hv h0 hu h hb
  have := (enterB_ok h hv h0).2
  omega
 | succ k ih =>
  intro v by' s K U hv h0 hu h hb
  have hf := mid_ok hL (by' := by') ih hv h0 hu h hb (atV L v).length (Nat.le_refl _)
  rw [List.take_length] at hf
  obtain ⟨q1, q2, q2', q3, q4, _⟩ := hf
  show VisR L.length K U s ((atV L v).foldl (stepB L (visB L k) v by') (enterB v s))
  generalize (atV L v).foldl (stepB L (visB L k) v by') (enterB v s) = sf at *
  have hal := atV_len L v
  have e4 : (L.length : Int) * ((sf.time : Int) - 1) = L.length * sf.time - L.length := by rw [Int.mul_sub, Int.mul_one]
  rw [e4] at q2 q2'
  refine ⟨q1, ⟨by omega, by omega⟩, by omega, fun w hw => ?_⟩
  have hne : w ≠ v := fun e => hw (e ▸ h0)
  have e5 : (enterB v s).seen.getD w 0 = s.seen.getD w 0 := by
   unfold enterB
   simp only [List.getD_eq_getElem?_getD]
   rw [List.getElem?_set_ne (Ne.symm hne)]
  rw [q4 w (by rw [e5]; exact hw), e5]
end Go.Proofs.Ytgklecfiflhjmaa
