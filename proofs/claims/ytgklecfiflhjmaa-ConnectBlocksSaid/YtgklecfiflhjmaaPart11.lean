/- A part of the proof. -/
import Derived.Test.YtgklecfiflhjmaaPart10
import Derived.Test.YtgklecfiflhjmaaLayerC
set_option linter.all false
set_option maxHeartbeats 4000000
set_option maxRecDepth 100000
namespace Go.Proofs.Ytgklecfiflhjmaa
open Go.Sp
structure RightG (g : G) (n : Nat) : Prop where
 c : checkG g = 0
 nn : g.n = n
 n1 : 1 ≤ n
 n12 : n ≤ 12
 l : g.es.length ≤ 40
 s : (endsL g.es).length ≤ 400
theorem BetweenR_ok (g : G) (a b : Int) (hl : g.es.length < 2 ^ 40) : ACall Try.prog 79 [tG g, tint a, tint b] (tint (cntL g.es (min a b) (max a b))) := by
 refine ACall.of_body Try.func79 rfl (by kernel_rfl) ?_
 simp only [entry, Try.ntmps79, tG, tint]
 refine zU ?_
 refine zR trivial trivial trivial ?_
 refine AWp.loopS (α:=Nat) 37 (fun i=>[(1,.c (.int .i64 a)),(2,.c (.int .i64 b)),(3,.c (.ptr 0 0)),(7,.c (.int .i64 (i : Int)))]) (fun i=>[.box [.int .i64 g.n, .slice (eRows g.es) .none]]) (fun i=>i ≤ g.es.length ∧ cntL g.es (min a b) (max a b) = cntL (g.es.drop i) (min a b) (max a b)) (fun i=>g.es.length - i) (0) (hk:=Weak.headL 1 37 [1, 2, 3, 7] zW) (h0:=?_) (round:=fun i hI=>?_)
 ·exact ⟨Nat.zero_le _, rfl⟩
 ·obtain ⟨hi, hx⟩ := hI
  by_cases hlt : i < g.es.length
  ·have e1 := eRows_get (List.getElem?_eq_getElem hlt)
   rw [List.drop_eq_getElem_cons hlt, cntL] at hx
   generalize hy : g.es[i] = x at *
   repeat' (first|((first|(refine zT ?_;intro K' hK')|(refine zG ?_ ?_<;>(try refine zH ?_)<;>intro hguard<;>(try exact zX)<;>try intro K' hK'))<;>((try simp +contextual only [go_sem, e1, eRows_len, Int.toNat_natCast, Int.ofNat_lt]);(repeat' first|(with_reducible refine hK' _ _ ?_;clear hK' K')|exact zY|with_reducible refine And.intro ?_ ?_|(with_reducible intro hpath;try exact zP)|(refine hK' _ _ ?_;clear hK' K')|fail);try refine zS ?_))|(refine zE ?_;refine hK _ _ ?_;clear hK K)|(refine zN ?_;try refine zS ?_)|refine zA ?_|(refine zB ?_;intro K hK)|(refine zC ?_ ?_<;>(try refine zH ?_)<;>intro hcond<;>try exact zX)|fail)
   ·rw [if_pos ⟨by omega, by omega⟩] at hx
    simp [Rets, aret, Blk.cells, ty, Try.results79, ares, toT1, toT, borrow, borrow0, capCell, toTree0, tint, hx]
   all_goals
    rw [if_neg (by omega)] at hx
    refine ⟨i + 1,Weak.headN 1 37 [1, 2, 3, 7] zW,?_,?_⟩
    ·exact ⟨hlt, hx⟩
    ·omega
  ·have ei : i = g.es.length := by omega
   have h0 : cntL g.es (min a b) (max a b) = 0 := by rw [hx, ei, List.drop_length, cntL]
   refine zR (zc @eRows_len (zc @Int.ofNat_lt trivial)) trivial trivial ?_
   simp [Rets, aret, Blk.cells, ty, Try.results79, ares, toT1, toT, borrow, borrow0, capCell, toTree0, tint, h0]
theorem cntL_pos {es : List E} (hm : ∀ e, e ∈ es → 1 ≤ e.m) {a b : Int} : 0 < cntL es a b ↔ ∃ e, e ∈ es ∧ e.a = a ∧ e.b = b := by
 induction es with
 | nil => simp [cntL]
 | cons x xs ih =>
  have ih := ih fun e he => hm e (by simp [he])
  simp only [cntL]
  split
  ·rename_i h
   exact ⟨fun _ => ⟨x, by simp, h.1, h.2⟩, fun _ => by have := hm x (by simp); omega⟩
  ·rename_i h
   rw [ih]
   constructor
   ·rintro ⟨e, he, h1, h2⟩; exact ⟨e, by simp [he], h1, h2⟩
   ·rintro ⟨e, he, h1, h2⟩
    rcases List.mem_cons.1 he with rfl | he
    ·exact absurd ⟨h1, h2⟩ h
    ·exact ⟨e, he, h1, h2⟩
theorem Holds_ok (l : List Int) (v : Int) (hl : l.length < 2 ^ 40) : ACall Try.prog 71 [tints l, tint v] (tbool (decide (v ∈ l))) := by
 refine ACall.of_body Try.func71 rfl (by kernel_rfl) ?_
 simp only [entry, Try.ntmps71, tints, tint]
 refine zU ?_
 refine zR trivial trivial trivial ?_
 refine AWp.loopS (α:=Nat) 18 (fun i=>[(0,.c (.slice (iRows l) .none)),(1,.c (.int .i64 v)),(5,.c (.int .i64 (i : Int)))]) (fun i=>[]) (fun i=>i ≤ l.length ∧ (v ∈ l ↔ v ∈ l.drop i)) (fun i=>l.length - i) (0) (hk:=Weak.headL 0 18 [0, 1, 5] zW) (h0:=?_) (round:=fun i hI=>?_)
 ·exact ⟨Nat.zero_le _, Iff.rfl⟩
 ·obtain ⟨hi, hx⟩ := hI
  by_cases hlt : i < l.length
  ·have e1 := iRows_get (List.getElem?_eq_getElem hlt)
   rw [List.drop_eq_getElem_cons hlt, List.mem_cons] at hx
   generalize l[i] = x at *
   repeat' (first|((first|(refine zT ?_;intro K' hK')|(refine zG ?_ ?_<;>(try refine zH ?_)<;>intro hguard<;>(try exact zX)<;>try intro K' hK'))<;>((try simp +contextual only [go_sem, e1, iRows_len, Int.toNat_natCast, Int.ofNat_lt]);(repeat' first|(with_reducible refine hK' _ _ ?_;clear hK' K')|exact zY|with_reducible refine And.intro ?_ ?_|(with_reducible intro hpath;try exact zP)|(refine hK' _ _ ?_;clear hK' K')|fail);try refine zS ?_))|(refine zE ?_;refine hK _ _ ?_;clear hK K)|(refine zN ?_;try refine zS ?_)|refine zA ?_|(refine zB ?_;intro K hK)|(refine zC ?_ ?_<;>(try refine zH ?_)<;>intro hcond<;>try exact zX)|fail)
   ·have e : v ∈ l := hx.2 (.inl (by omega))
    simp [Rets, aret, Blk.cells, ty, Try.results71, ares, toT1, toT, borrow, borrow0, capCell, toTree0, tbool, e]
   ·refine ⟨i + 1,Weak.headN 0 18 [0, 1, 5] zW,?_,?_⟩
    ·refine ⟨hlt, hx.trans ⟨fun h => h.resolve_left (by omega), .inr⟩⟩
    ·omega
  ·have ei : i = l.length := by omega
   have e : ¬ v ∈ l := fun h => by have := hx.1 h; rw [ei, List.drop_length] at this; cases this
   refine zR (zc @iRows_len (zc @Int.ofNat_lt trivial)) trivial trivial ?_
   simp [Rets, aret, Blk.cells, ty, Try.results71, ares, toT1, toT, borrow, borrow0, capCell, toTree0, tbool, e]
end Go.Proofs.Ytgklecfiflhjmaa
