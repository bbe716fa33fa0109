/- A part of the proof. -/
import Derived.Test.YtdhfgihnoimoaaaPart02
import Derived.Test.YtdhfgihnoimoaaaLayerC
set_option linter.all false
set_option maxHeartbeats 4000000
set_option maxRecDepth 100000
namespace Go.Proofs.Ytdhfgihnoimoaaa
open Go.Sp
theorem Vertex_ok (g : G) (v : Int) : ACall Try.prog 55 [tG g, tint v] (tbool (decide (0 ≤ v ∧ v < g.n))) := by
 refine ACall.of_body Try.func55 rfl (by kernel_rfl) ?_
 simp only [entry, Try.ntmps55, tG, tint]
 refine zU ?_
 repeat' (first|((first|(refine zT ?_;intro K' hK')|(refine zG ?_ ?_<;>(try refine zH ?_)<;>intro hguard<;>(try exact zX)<;>try intro K' hK'))<;>((try simp +contextual only [go_sem]);(repeat' first|(with_reducible refine hK' _ _ ?_;clear hK' K')|exact zY|with_reducible refine And.intro ?_ ?_|(with_reducible intro hpath;try exact zP)|(refine hK' _ _ ?_;clear hK' K')|fail);try refine zS ?_))|(refine zE ?_;refine hK _ _ ?_;clear hK K)|(refine zN ?_;try refine zS ?_)|refine zA ?_|(refine zB ?_;intro K hK)|(refine zC ?_ ?_<;>(try refine zH ?_)<;>intro hcond<;>try exact zX)|fail)
 all_goals
  simp [Rets, aret, Blk.cells, ty, Try.results55, ares, toT1, toT, borrow, borrow0, capCell, toTree0, tbool]
 all_goals omega
def edgeE (n : Int) (es : List E) (i : Nat) : Int :=
 match es[i]? with
 | none => 0
 | some x =>
  if ¬ (0 ≤ x.a ∧ x.a < n) ∨ ¬ (0 ≤ x.b ∧ x.b < n) ∨ x.m < 1 ∨ 50 < x.m then 2
  else if x.b < x.a then 9
  else match i with
   | 0 => 0
   | j + 1 => match es[j]? with
    | none => 0
    | some y => if x.a < y.a ∨ (x.a = y.a ∧ x.b ≤ y.b) then 9 else 0
theorem edge_ok (g : G) (i : Nat) (hi : i < g.es.length) (hl : g.es.length < 2 ^ 40) : ACall Try.prog 57 [tG g, tint i] (tint (edgeE g.n g.es i)) := by
 have e1 : g.es[i]? = some g.es[i] := List.getElem?_eq_getElem hi
 have e2 := eRows_get e1
 cases i with
 | zero =>
  refine ACall.of_body Try.func57 rfl (by kernel_rfl) ?_
  simp only [entry, Try.ntmps57, tG, tint]
  refine zU ?_
  repeat' (first|((first|(refine zT ?_;intro K' hK')|(refine zG ?_ ?_<;>(try refine zH ?_)<;>intro hguard<;>(try exact zX)<;>try intro K' hK'))<;>((try simp +contextual only [go_sem, e2, Int.toNat_natCast, Int.toNat_zero, Int.natCast_zero]);(repeat' first|(with_reducible refine hK' _ _ ?_;clear hK' K')|(with_reducible refine zK (Vertex_ok g _) ?_;try simp +contextual only [go_sem, e2, Int.toNat_natCast, Int.toNat_zero, Int.natCast_zero])|exact zY|with_reducible refine And.intro ?_ ?_|(with_reducible intro hpath;try exact zP)|(refine hK' _ _ ?_;clear hK' K')|fail);try refine zS ?_))|(refine zE ?_;refine hK _ _ ?_;clear hK K)|(refine zN ?_;try refine zS ?_)|refine zA ?_|(refine zB ?_;intro K hK)|(refine zC ?_ ?_<;>(try refine zH ?_)<;>intro hcond<;>try exact zX)|fail)
  all_goals
   simp [Rets, aret, Blk.cells, ty, Try.results57, ares, toT1, toT, borrow, borrow0, capCell, toTree0, tint, edgeE, e1]
  all_goals omega
 | succ j =>
  have hj : j < g.es.length := by omega
  have f1 : g.es[j]? = some g.es[j] := List.getElem?_eq_getElem hj
  have f2 := eRows_get f1
  have e4 : ((j + 1 : Nat) : Int) - 1 = j := by omega
  have e5 : ((j + 1 : Nat) : Int).toNat = j + 1 := by omega
  have e6 : ((j : Nat) : Int).toNat = j := by omega
  refine ACall.of_body Try.func57 rfl (by kernel_rfl) ?_
  simp only [entry, Try.ntmps57, tG, tint]
  refine zU ?_
  repeat' (first|((first|(refine zT ?_;intro K' hK')|(refine zG ?_ ?_<;>(try refine zH ?_)<;>intro hguard<;>(try exact zX)<;>try intro K' hK'))<;>((try simp +contextual only [go_sem, e2, e4, e5, e6, f2]);(repeat' first|(with_reducible refine hK' _ _ ?_;clear hK' K')|(with_reducible refine zK (Vertex_ok g _) ?_;try simp +contextual only [go_sem, e2, e4, e5, e6, f2])|exact zY|with_reducible refine And.intro ?_ ?_|(with_reducible intro hpath;try exact zP)|(refine hK' _ _ ?_;clear hK' K')|fail);try refine zS ?_))|(refine zE ?_;refine hK _ _ ?_;clear hK K)|(refine zN ?_;try refine zS ?_)|refine zA ?_|(refine zB ?_;intro K hK)|(refine zC ?_ ?_<;>(try refine zH ?_)<;>intro hcond<;>try exact zX)|fail)
  all_goals
   simp [Rets, aret, Blk.cells, ty, Try.results57, ares, toT1, toT, borrow, borrow0, capCell, toTree0, tint, edgeE, e1, f1]
  all_goals omega
def checkE (n : Int) (es : List E) : Nat → Int
 | 0 => 0
 | k + 1 => if edgeE n es (es.length - (k + 1)) ≠ 0 then edgeE n es (es.length - (k + 1)) else checkE n es k
def checkG (g : G) : Int := if g.n < 1 ∨ 12 < g.n then 2 else checkE g.n g.es g.es.length
theorem CheckR_ok (g : G) (hl : g.es.length < 2 ^ 40) : ACall Try.prog 34 [tG g] (tint (checkG g)) := by
 refine ACall.of_body Try.func34 rfl (by kernel_rfl) ?_
 simp only [entry, Try.ntmps34, tG]
 refine zU ?_
 repeat' (first|((first|(refine zT ?_;intro K' hK')|(refine zG ?_ ?_<;>(try refine zH ?_)<;>intro hguard<;>(try exact zX)<;>try intro K' hK'))<;>((try simp +contextual only [go_sem]);(repeat' first|(with_reducible refine hK' _ _ ?_;clear hK' K')|exact zY|with_reducible refine And.intro ?_ ?_|(with_reducible intro hpath;try exact zP)|(refine hK' _ _ ?_;clear hK' K')|fail);try refine zS ?_))|(refine zE ?_;refine hK _ _ ?_;clear hK K)|(refine zN ?_;try refine zS ?_)|refine zA ?_|(refine zB ?_;intro K hK)|(refine zC ?_ ?_<;>(try refine zH ?_)<;>intro hcond<;>try exact zX)|fail)
 ·
  simp [Rets, aret, Blk.cells, ty, Try.results34, ares, toT1, toT, borrow, borrow0, capCell, toTree0, tint, checkG]
  all_goals omega
 ·
  refine AWp.loopS (α:=Nat) 26 (fun i=>[(1,.c (.ptr 0 0)),(3,.c (.int .i64 (i : Int)))]) (fun i=>[.box [.int .i64 g.n, .slice (eRows g.es) .none]]) (fun i=>i ≤ g.es.length ∧ checkG g = checkE g.n g.es (g.es.length - i)) (fun i=>g.es.length - i) (0) (hk:=Weak.headL 1 26 [1, 3] zW) (h0:=?_) (round:=fun i hI=>?_)
  ·exact ⟨Nat.zero_le _, by simp only [checkG, Nat.sub_zero]; rw [if_neg (by omega)]⟩
  ·obtain ⟨hi, hx⟩ := hI
   by_cases hlt : i < g.es.length
   ·have es : g.es.length - i = (g.es.length - (i + 1)) + 1 := by omega
    have ei : g.es.length - (g.es.length - (i + 1) + 1) = i := by omega
    rw [es, checkE, ei] at hx
    repeat' (first|((first|(refine zT ?_;intro K' hK')|(refine zG ?_ ?_<;>(try refine zH ?_)<;>intro hguard<;>(try exact zX)<;>try intro K' hK'))<;>((try simp +contextual only [go_sem, eRows_len, Int.ofNat_lt]);(repeat' first|(with_reducible refine hK' _ _ ?_;clear hK' K')|(with_reducible refine zK (edge_ok g i hlt hl) ?_;try simp +contextual only [go_sem, eRows_len, Int.ofNat_lt])|exact zY|with_reducible refine And.intro ?_ ?_|(with_reducible intro hpath;try exact zP)|(refine hK' _ _ ?_;clear hK' K')|fail);try refine zS ?_))|(refine zE ?_;refine hK _ _ ?_;clear hK K)|(refine zN ?_;try refine zS ?_)|refine zA ?_|(refine zB ?_;intro K hK)|(refine zC ?_ ?_<;>(try refine zH ?_)<;>intro hcond<;>try exact zX)|fail)
    ·have hx2 : checkG g = edgeE g.n g.es i := by rw [hx, if_pos (by assumption)]
     simp [Rets, aret, Blk.cells, ty, Try.results34, ares, toT1, toT, borrow, borrow0, capCell, toTree0, tint, hx2]
    ·refine ⟨i + 1,Weak.headN 1 26 [1, 3] zW,?_,?_⟩
     ·exact ⟨hlt, by rw [hx, if_neg (by omega)]⟩
     ·omega
   ·have ei : i = g.es.length := by omega
    have h0 : checkG g = 0 := by rw [hx, ei, Nat.sub_self, checkE]
    refine zR (zc @eRows_len (zc @Int.ofNat_lt trivial)) trivial trivial ?_
    simp [Rets, aret, Blk.cells, ty, Try.results34, ares, toT1, toT, borrow, borrow0, capCell, toTree0, tint, h0]
 ·
  simp [Rets, aret, Blk.cells, ty, Try.results34, ares, toT1, toT, borrow, borrow0, capCell, toTree0, tint, checkG]
  all_goals omega
structure BS where
 time : Nat
 seen : List Nat
 low : List Nat
 opn : List Nat
 out : List (List Nat)
def atV (L : List (Nat × Nat)) (v : Nat) : List Nat := (List.range L.length).filter fun e => let p := L.getD e (0, 0); decide (p.1 ≠ p.2) && (decide (p.1 = v) || decide (p.2 = v))
def enterB (v : Nat) (s : BS) : BS := ⟨s.time + 1, s.seen.set v (s.time + 1), s.low.set v (s.time + 1), s.opn, s.out⟩
def loopsB (L : List (Nat × Nat)) : List (List Nat) := ((List.range L.length).filter fun e => let p := L.getD e (0, 0); decide (p.1 = p.2)).map fun e => [e]
theorem SizeR_ok (g : G) (hs : (endsL g.es).length < 2 ^ 40) (hl : g.es.length < 2 ^ 40) (hm : ∀ e, e ∈ g.es → e.m < 2 ^ 40) : ACall Try.prog 74 [tG g] (tint (endsL g.es).length) := by
 refine ACall.of_body Try.func74 rfl (by kernel_rfl) ?_
 simp only [entry, Try.ntmps74, tG]
 refine zU ?_
 repeat' (first|((first|(refine zT ?_;intro K' hK')|(refine zG ?_ ?_<;>(try refine zH ?_)<;>intro hguard<;>(try exact zX)<;>try intro K' hK'))<;>((try simp +contextual only [go_sem, pRows_len]);(repeat' first|(with_reducible refine hK' _ _ ?_;clear hK' K')|(with_reducible refine zK (EndsR_ok g hs hl hm) ?_;try simp +contextual only [go_sem, pRows_len])|exact zY|with_reducible refine And.intro ?_ ?_|(with_reducible intro hpath;try exact zP)|(refine hK' _ _ ?_;clear hK' K')|fail);try refine zS ?_))|(refine zE ?_;refine hK _ _ ?_;clear hK K)|(refine zN ?_;try refine zS ?_)|refine zA ?_|(refine zB ?_;intro K hK)|(refine zC ?_ ?_<;>(try refine zH ?_)<;>intro hcond<;>try exact zX)|fail)
 all_goals
  simp [Rets, aret, Blk.cells, ty, Try.results74, ares, toT1, toT, borrow, borrow0, capCell, toTree0, tint]
def lastE (es : List E) : Nat → Int × Int
 | 0 => (-1, -1)
 | j + 1 => match es[j]? with
  | some y => (y.a, y.b)
  | none => (-1, -1)
def badE (n : Int) (x : E) : Prop := ¬ (0 ≤ x.a ∧ x.a < n) ∨ ¬ (0 ≤ x.b ∧ x.b < n) ∨ x.m < 1 ∨ 50 < x.m
theorem edgeE_bad {n : Int} {es : List E} {i : Nat} (hi : i < es.length) (h : badE n es[i]) : edgeE n es i = 2 := by
 unfold edgeE; rw [List.getElem?_eq_getElem hi]; exact if_pos h
theorem edgeE_nine {n : Int} {es : List E} {i : Nat} (hi : i < es.length) (h : ¬ badE n es[i]) (h2 : es[i].b < es[i].a ∨ 0 ≤ orI [cmpI (lastE es i).1 es[i].a, cmpI (lastE es i).2 es[i].b]) : edgeE n es i = 9 := by
 unfold edgeE; rw [List.getElem?_eq_getElem hi]
 simp only
 unfold badE at h
 rw [if_neg h]
 by_cases hb : es[i].b < es[i].a
 ·rw [if_pos hb]
 ·rw [if_neg hb]
  rcases h2 with h2 | h2
  ·exact absurd h2 hb
  ·cases i with
   | zero => exfalso; simp only [lastE, orI, cmpI] at h2; (repeat' split at h2) <;> omega
   | succ j =>
    have hj : j < es.length := by omega
    simp only [lastE, List.getElem?_eq_getElem hj, orI, cmpI] at h2 ⊢
    rw [if_pos]
    (repeat' split at h2) <;> omega
theorem edgeE_zero {n : Int} {es : List E} {i : Nat} (hi : i < es.length) (h : ¬ badE n es[i]) (h1 : ¬ es[i].b < es[i].a) (h2 : ¬ 0 ≤ orI [cmpI (lastE es i).1 es[i].a, cmpI (lastE es i).2 es[i].b]) : edgeE n es i = 0 := by
 unfold edgeE; rw [List.getElem?_eq_getElem hi]
 simp only
 unfold badE at h
 rw [if_neg h, if_neg h1]
 cases i with
 | zero => rfl
 | succ j =>
  have hj : j < es.length := by omega
  simp only [lastE, List.getElem?_eq_getElem hj, orI, cmpI] at h2 ⊢
  rw [if_neg]
  (repeat' split at h2) <;> omega
theorem Check_ok (g : G) (hl : g.es.length < 2 ^ 40) : ACall Try.prog 77 [tG g] (tint (checkG g)) := by
 refine ACall.of_body Try.func77 rfl (by kernel_rfl) ?_
 simp only [entry, Try.ntmps77, tG]
 refine zU ?_
 repeat' (first|((first|(refine zT ?_;intro K' hK')|(refine zG ?_ ?_<;>(try refine zH ?_)<;>intro hguard<;>(try exact zX)<;>try intro K' hK'))<;>((try simp +contextual only [go_sem, eRows_len]);(repeat' first|(with_reducible refine hK' _ _ ?_;clear hK' K')|exact zY|with_reducible refine And.intro ?_ ?_|(with_reducible intro hpath;try exact zP)|(refine hK' _ _ ?_;clear hK' K')|fail);try refine zS ?_))|(refine zE ?_;refine hK _ _ ?_;clear hK K)|(refine zN ?_;try refine zS ?_)|refine zA ?_|(refine zB ?_;intro K hK)|(refine zC ?_ ?_<;>(try refine zH ?_)<;>intro hcond<;>try exact zX)|fail)
 ·
  simp [Rets, aret, Blk.cells, ty, Try.results77, ares, toT1, toT, borrow, borrow0, capCell, toTree0, tint, checkG]
  all_goals omega
 ·
  refine AWp.loopS (α:=Nat) 67 (fun i=>[(1,.c (.ptr 0 0)),(3,.c (.ptr 1 0)),(17,.c (.slice (eRows g.es) .none)),(18,.c (.int .i64 g.es.length)),(19,.c (.int .i64 (i : Int)))]) (fun i=>[.box [.int .i64 g.n, .slice (eRows g.es) .none], .box [.int .i64 (lastE g.es i).1, .int .i64 (lastE g.es i).2]]) (fun i=>i ≤ g.es.length ∧ checkG g = checkE g.n g.es (g.es.length - i)) (fun i=>g.es.length - i) (0) (hk:=Weak.headL 2 67 [1, 3, 17, 18, 19] zW) (h0:=?_) (round:=fun i hI=>?_)
  ·exact ⟨Nat.zero_le _, by simp only [checkG, Nat.sub_zero]; rw [if_neg (by omega)]⟩
  ·obtain ⟨hi, hx⟩ := hI
   by_cases hlt : i < g.es.length
   ·have es : g.es.length - i = (g.es.length - (i + 1)) + 1 := by omega
    have ei : g.es.length - (g.es.length - (i + 1) + 1) = i := by omega
    rw [es, checkE, ei] at hx
    have e1 : g.es[i]? = some g.es[i] := List.getElem?_eq_getElem hlt
    have e2 := eRows_get e1
    repeat' (first|((first|(refine zT ?_;intro K' hK')|(refine zG ?_ ?_<;>(try refine zH ?_)<;>intro hguard<;>(try exact zX)<;>try intro K' hK'))<;>((try simp +contextual only [go_sem, e2, Int.toNat_natCast]);(repeat' first|(with_reducible refine hK' _ _ ?_;clear hK' K')|((with_reducible first|refine zK (vertex_ok _ _) ?_|refine zK (compare_ok _ _ _ _) ?_);try simp +contextual only [go_sem, e2, Int.toNat_natCast])|exact zY|with_reducible refine And.intro ?_ ?_|(with_reducible intro hpath;try exact zP)|(refine hK' _ _ ?_;clear hK' K')|fail);try refine zS ?_))|(refine zE ?_;refine hK _ _ ?_;clear hK K)|(refine zN ?_;try refine zS ?_)|refine zA ?_|(refine zB ?_;intro K hK)|(refine zC ?_ ?_<;>(try refine zH ?_)<;>intro hcond<;>try exact zX)|fail)
    ·have h2 : checkG g = 2 := by rw [hx, edgeE_bad hlt (by unfold badE; omega), if_pos (by decide)]
     simp [Rets, aret, Blk.cells, ty, Try.results77, ares, toT1, toT, borrow, borrow0, capCell, toTree0, tint, h2]
    ·have h9 : checkG g = 9 := by rw [hx, edgeE_nine hlt (by unfold badE; omega) (by first | exact .inl (by assumption) | exact .inr (by assumption)), if_pos (by decide)]
     simp [Rets, aret, Blk.cells, ty, Try.results77, ares, toT1, toT, borrow, borrow0, capCell, toTree0, tint, h9]
    ·have h0 : edgeE g.n g.es i = 0 := edgeE_zero hlt (by unfold badE; omega) (by omega) (by omega)
     refine ⟨i + 1,Weak.headN 2 67 [1, 3, 17, 18, 19] zW (e1:=by first|rfl|(simp [mask,keepL, lastE, e1];done)|(simp [mask,keepL, lastE, e1]<;>simp_all<;>omega)) (e2:=by first|rfl|(simp [mask,keepL, lastE, e1];done)|(simp [mask,keepL, lastE, e1]<;>simp_all<;>omega)),?_,?_⟩
     ·exact ⟨hlt, by rw [hx, if_neg (by omega)]⟩
     ·omega
    ·have h9 : checkG g = 9 := by rw [hx, edgeE_nine hlt (by unfold badE; omega) (by first | exact .inl (by assumption) | exact .inr (by assumption)), if_pos (by decide)]
     simp [Rets, aret, Blk.cells, ty, Try.results77, ares, toT1, toT, borrow, borrow0, capCell, toTree0, tint, h9]
    ·have h2 : checkG g = 2 := by rw [hx, edgeE_bad hlt (by unfold badE; omega), if_pos (by decide)]
     simp [Rets, aret, Blk.cells, ty, Try.results77, ares, toT1, toT, borrow, borrow0, capCell, toTree0, tint, h2]
    ·have h2 : checkG g = 2 := by rw [hx, edgeE_bad hlt (by unfold badE; omega), if_pos (by decide)]
     simp [Rets, aret, Blk.cells, ty, Try.results77, ares, toT1, toT, borrow, borrow0, capCell, toTree0, tint, h2]
    ·have h2 : checkG g = 2 := by rw [hx, edgeE_bad hlt (by unfold badE; omega), if_pos (by decide)]
     simp [Rets, aret, Blk.cells, ty, Try.results77, ares, toT1, toT, borrow, borrow0, capCell, toTree0, tint, h2]
   ·have ei : i = g.es.length := by omega
    have h0 : checkG g = 0 := by rw [hx, ei, Nat.sub_self, checkE]
    refine zR (zc @eRows_len (zc @Int.ofNat_lt trivial)) trivial trivial ?_
    simp [Rets, aret, Blk.cells, ty, Try.results77, ares, toT1, toT, borrow, borrow0, capCell, toTree0, tint, h0]
 ·
  simp [Rets, aret, Blk.cells, ty, Try.results77, ares, toT1, toT, borrow, borrow0, capCell, toTree0, tint, checkG]
  all_goals omega
def unseen (s : BS) : Nat := s.seen.count 0
structure BOK (E : Nat) (s : BS) : Prop where
 ls : s.seen.length = 12
 ll : s.low.length = 12
 tm : s.time + unseen s = 12
 sb : ∀ x, x ∈ s.seen → x ≤ s.time
 lb : ∀ x, x ∈ s.low → x ≤ s.time
 op : ∀ e, e ∈ s.opn → e < E
def BLe (E : Nat) (K U : Int) (s : BS) : Prop := (s.opn.length : Int) ≤ K + E * s.time ∧ (s.out.length : Int) ≤ U + E * s.time
section
variable {E : Nat} {s : BS} {v w : Nat}
end
structure VisR (E : Nat) (K U : Int) (s s' : BS) : Prop where
 ok : BOK E s'
 le : BLe E K U s'
 tm : s.time ≤ s'.time
 keep : ∀ w, s.seen.getD w 0 ≠ 0 → s'.seen.getD w 0 = s.seen.getD w 0
structure Mid (L : List (Nat × Nat)) (v : Nat) (K U : Int) (s : BS) (i : Nat) (si : BS) : Prop where
 ok : BOK L.length si
 b1 : (si.opn.length : Int) ≤ K + L.length * (si.time - 1) + i
 b2 : (si.out.length : Int) ≤ U + L.length * (si.time - 1) + i
 tm : s.time + 1 ≤ si.time
 keep : ∀ w, (enterB v s).seen.getD w 0 ≠ 0 → si.seen.getD w 0 = (enterB v s).seen.getD w 0
 seen : si.seen.getD v 0 ≠ 0
end Go.Proofs.Ytdhfgihnoimoaaa
