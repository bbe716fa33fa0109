/- A part of the proof. -/
import Derived.Test.YtgklecfiflhjmaaPart08
import Derived.Test.YtgklecfiflhjmaaLayerC
import Derived.Test.YtgklecfiflhjmaaPart06
import Derived.Test.YtgklecfiflhjmaaPart05
set_option linter.all false
set_option maxHeartbeats 4000000
set_option maxRecDepth 100000
namespace Go.Proofs.Ytgklecfiflhjmaa
open Go.Sp
def subE (n : Int) : Option Int → List Int → Int
 | _, [] => 0
 | p, v :: l => if ¬ (0 ≤ v ∧ v < n) then 2 else if (∃ u, p = some u ∧ v ≤ u) then 9 else subE n (some v) l
def subG (g : G) (l : List Int) : Int := if checkG g ≠ 0 then checkG g else subE g.n none l
theorem Subset_ok (g : G) (l : List Int) (hg : g.es.length < 2 ^ 40) (hl : l.length < 2 ^ 40) : ACall Try.prog 57 [tG g, tints l] (tint (subG g l)) := by
 refine ACall.of_body Try.func57 rfl (by kernel_rfl) ?_
 simp only [entry, Try.ntmps57, tG, tints]
 refine zU ?_
 repeat' (first|((first|(refine zT ?_;intro K' hK')|(refine zG ?_ ?_<;>(try refine zH ?_)<;>intro hguard<;>(try exact zX)<;>try intro K' hK'))<;>((try simp +contextual only [go_sem, iRows_len]);(repeat' first|(with_reducible refine hK' _ _ ?_;clear hK' K')|(with_reducible refine zK (Check_ok g hg) ?_;try simp +contextual only [go_sem, iRows_len])|exact zY|with_reducible refine And.intro ?_ ?_|(with_reducible intro hpath;try exact zP)|(refine hK' _ _ ?_;clear hK' K')|fail);try refine zS ?_))|(refine zE ?_;refine hK _ _ ?_;clear hK K)|(refine zN ?_;try refine zS ?_)|refine zA ?_|(refine zB ?_;intro K hK)|(refine zC ?_ ?_<;>(try refine zH ?_)<;>intro hcond<;>try exact zX)|fail)
 ·have e : subG g l = checkG g := by unfold subG; rw [if_pos (by assumption)]
  simp [Rets, aret, Blk.cells, ty, Try.results57, ares, toT1, toT, borrow, borrow0, capCell, toTree0, tint, e]
 ·have hc : checkG g = 0 := by omega
  have e : subG g l = subE g.n none l := by unfold subG; rw [if_neg (by omega)]
  rw [e]
  refine AWp.loopS (α:=Nat) 37 (fun k=>[(1,.c (.slice (iRows l) .none)),(2,.c (.ptr 0 0)),(13,.c (.slice (iRows l) .none)),(14,.c (.int .i64 l.length)),(15,.c (.int .i64 (k : Int)))]) (fun k=>[.box [.int .i64 g.n, .slice (eRows g.es) .none]]) (fun k=>k ≤ l.length ∧ subE g.n none l = subE g.n (match k with | 0 => none | j + 1 => l[j]?) (l.drop k)) (fun k=>l.length - k) (0) (hk:=Weak.headL 1 37 [1, 2, 13, 14, 15] zW) (h0:=?_) (round:=fun k hI=>?_)
  ·exact ⟨Nat.zero_le _, rfl⟩
  ·obtain ⟨hk, hx⟩ := hI
   by_cases hlt : k < l.length
   ·have e0 := List.getElem?_eq_getElem hlt
    have e1 := iRows_get e0
    rw [List.drop_eq_getElem_cons hlt, subE] at hx
    generalize hv : l[k] = v at *
    cases k with
    | zero =>
     simp only [reduceCtorEq, false_and, exists_false, if_false] at hx
     repeat' (first|((first|(refine zT ?_;intro K' hK')|(refine zG ?_ ?_<;>(try refine zH ?_)<;>intro hguard<;>(try exact zX)<;>try intro K' hK'))<;>((try simp +contextual only [go_sem, e1, Int.toNat_natCast, Int.ofNat_lt]);(repeat' first|(with_reducible refine hK' _ _ ?_;clear hK' K')|(with_reducible refine zK (vertex_ok _ _) ?_;try simp +contextual only [go_sem, e1, Int.toNat_natCast, Int.ofNat_lt])|exact zY|with_reducible refine And.intro ?_ ?_|(with_reducible intro hpath;try exact zP)|(refine hK' _ _ ?_;clear hK' K')|fail);try refine zS ?_))|(refine zE ?_;refine hK _ _ ?_;clear hK K)|(refine zN ?_;try refine zS ?_)|refine zA ?_|(refine zB ?_;intro K hK)|(refine zC ?_ ?_<;>(try refine zH ?_)<;>intro hcond<;>try exact zX)|fail)
     ·rw [if_pos (by assumption)] at hx
      simp [Rets, aret, Blk.cells, ty, Try.results57, ares, toT1, toT, borrow, borrow0, capCell, toTree0, tint, hx]
     ·rw [if_neg (by omega)] at hx
      refine ⟨0 + 1,Weak.headN 1 37 [1, 2, 13, 14, 15] zW,?_,?_⟩
      ·exact ⟨hlt, hx.trans (by simp only [e0])⟩
      ·omega
    | succ j =>
     have e2 := List.getElem?_eq_getElem (show j < l.length by omega)
     have e3 := iRows_get e2
     have hj1 : ((j + 1 : Nat) : Int) - 1 = (j : Int) := by omega
     simp only [e2, Option.some.injEq, exists_eq_left'] at hx
     generalize hu : l[j] = u at *
     repeat' (first|((first|(refine zT ?_;intro K' hK')|(refine zG ?_ ?_<;>(try refine zH ?_)<;>intro hguard<;>(try exact zX)<;>try intro K' hK'))<;>((try simp +contextual only [go_sem, e1, e3, hj1, Int.toNat_natCast, Int.ofNat_lt]);(repeat' first|(with_reducible refine hK' _ _ ?_;clear hK' K')|(with_reducible refine zK (vertex_ok _ _) ?_;try simp +contextual only [go_sem, e1, e3, hj1, Int.toNat_natCast, Int.ofNat_lt])|exact zY|with_reducible refine And.intro ?_ ?_|(with_reducible intro hpath;try exact zP)|(refine hK' _ _ ?_;clear hK' K')|fail);try refine zS ?_))|(refine zE ?_;refine hK _ _ ?_;clear hK K)|(refine zN ?_;try refine zS ?_)|refine zA ?_|(refine zB ?_;intro K hK)|(refine zC ?_ ?_<;>(try refine zH ?_)<;>intro hcond<;>try exact zX)|fail)
     ·rw [if_pos (by assumption)] at hx
      simp [Rets, aret, Blk.cells, ty, Try.results57, ares, toT1, toT, borrow, borrow0, capCell, toTree0, tint, hx]
     ·rw [if_neg (by omega), if_pos (by assumption)] at hx
      simp [Rets, aret, Blk.cells, ty, Try.results57, ares, toT1, toT, borrow, borrow0, capCell, toTree0, tint, hx]
     ·rw [if_neg (by omega), if_neg (by omega)] at hx
      refine ⟨j + 1 + 1,Weak.headN 1 37 [1, 2, 13, 14, 15] zW,?_,?_⟩
      ·exact ⟨hlt, hx.trans (by simp only [e0])⟩
      ·omega
   ·have e : k = l.length := by omega
    have e : subE g.n none l = 0 := by rw [hx, e, List.drop_length]; rfl
    refine zR (zc @Int.ofNat_lt trivial) trivial trivial ?_
    simp [Rets, aret, Blk.cells, ty, Try.results57, ares, toT1, toT, borrow, borrow0, capCell, toTree0, tint, e]
theorem enter69 : ∀ args w, (callFunc 88 args).run Try.prog w = .ok (.enter 88 args) w := Go.Proofs.enters_of Try.func88 (by kernel_rfl) rfl
theorem SortI_ok (l : List Int) (hl : l.length < 2 ^ 60) {H : List Blk} {id cap : Nat} (hid : H[id]? = some (.box (flatRows (iRows l)))) :
  ACallH Try.prog 88 H [.c (.ref id 1 0 l.length cap)] (H.set id (.box (flatRows (iRows (sortI l))))) (.tup []) := SortInts_call laySortI enter69 l (by omega) hid
end Go.Proofs.Ytgklecfiflhjmaa
