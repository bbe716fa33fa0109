/- A part of the proof. -/
import Derived.Test.YtdhfgihnoimoaaaPart10
import Derived.Test.YtdhfgihnoimoaaaLayerC
set_option linter.all false
set_option maxHeartbeats 4000000
set_option maxRecDepth 100000
namespace Go.Proofs.Ytdhfgihnoimoaaa
open Go.Sp
structure RightG (g : G) (n : Nat) : Prop where
 c : checkG g = 0
 nn : g.n = n
 n1 : 1 ≤ n
 n12 : n ≤ 12
 l : g.es.length ≤ 40
 s : (endsL g.es).length ≤ 400
theorem BetweenR_ok (g : G) (a b : Int) (hl : g.es.length < 2 ^ 40) : ACall Try.prog 114 [tG g, tint a, tint b] (tint (cntL g.es (min a b) (max a b))) := by
 refine ACall.of_body Try.func114 rfl (by kernel_rfl) ?_
 simp only [entry, Try.ntmps114, tG, tint]
 refine zU ?_
 refine zR trivial trivial trivial ?_
 refine AWp.loopS (α:=Nat) 37 (fun i=>[(1,.c (.int .i64 a)),(2,.c (.int .i64 b)),(3,.c (.ptr 0 0)),(7,.c (.int .i64 (i : Int)))]) (fun i=>[.box [.int .i64 g.n, .slice (eRows g.es) .none]]) (fun i=>i ≤ g.es.length ∧ cntL g.es (min a b) (max a b) = cntL (g.es.drop i) (min a b) (max a b)) (fun i=>g.es.length - i) (0) (hk:=Weak.headL 1 37 [1, 2, 3, 7] zW) (h0:=?_) (round:=fun i hI=>?_)
 ·exact ⟨Nat.zero_le _, rfl⟩
 ·obtain ⟨hi, hx⟩ := hI
  by_cases hlt : i < g.es.length
  ·have e1 := eRows_get (List.getElem?_eq_getElem hlt)
   rw [List.drop_eq_getElem_cons hlt, cntL] at hx
   generalize hy : g.es[i] = x at *
   repeat' (first|((first|(refine zT ?_;intro K' hK')|(refine zG ?_ ?_<;>(try refine zH ?_)<;>intro hguard<;>(try exact zX)<;>try intro K' hK'))<;>((try simp +contextual only [go_sem, e1, eRows_len, Int.toNat_natCast, Int.ofNat_lt]);(repeat' first|(with_reducible refine hK' _ _ ?_;clear hK' K')|exact zY|with_reducible refine And.intro ?_ ?_|(with_reducible intro hpath;try exact zP)|(refine hK' _ _ ?_;clear hK' K')|fail);try refine zS ?_))|(refine zE ?_;refine hK _ _ ?_;clear hK K)|(refine zN ?_;try refine zS ?_)|refine zA ?_|(refine zB ?_;intro K hK)|(refine zC ?_ ?_<;>(try refine zH ?_)<;>intro hcond<;>try exact zX)|fail)
   ·rw [if_pos ⟨by omega, by omega⟩] at hx
    simp [Rets, aret, Blk.cells, ty, Try.results114, ares, toT1, toT, borrow, borrow0, capCell, toTree0, tint, hx]
   all_goals
    rw [if_neg (by omega)] at hx
    refine ⟨i + 1,Weak.headN 1 37 [1, 2, 3, 7] zW,?_,?_⟩
    ·exact ⟨hlt, hx⟩
    ·omega
  ·have ei : i = g.es.length := by omega
   have h0 : cntL g.es (min a b) (max a b) = 0 := by rw [hx, ei, List.drop_length, cntL]
   refine zR (zc @eRows_len (zc @Int.ofNat_lt trivial)) trivial trivial ?_
   simp [Rets, aret, Blk.cells, ty, Try.results114, ares, toT1, toT, borrow, borrow0, capCell, toTree0, tint, h0]
theorem cntL_pos {es : List E} (hm : ∀ e, e ∈ es → 1 ≤ e.m) {a b : Int} : 0 < cntL es a b ↔ ∃ e, e ∈ es ∧ e.a = a ∧ e.b = b := by
 induction es with
 | nil => simp [cntL]
 | cons x xs ih =>
  have ih := ih fun e he => hm e (by simp [he])
  simp only [cntL]
  split
  ·rename_i h
   exact ⟨fun _ => ⟨x, by simp, h.1, h.2⟩, fun _ => by have := hm x (by simp); omega⟩
  ·rename_i h
   rw [ih]
   constructor
   ·rintro ⟨e, he, h1, h2⟩; exact ⟨e, by simp [he], h1, h2⟩
   ·rintro ⟨e, he, h1, h2⟩
    rcases List.mem_cons.1 he with rfl | he
    ·exact absurd ⟨h1, h2⟩ h
    ·exact ⟨e, he, h1, h2⟩
def limE (most : Int) (x : E) : List E := if x.a = x.b then [] else [⟨x.a, x.b, min x.m most⟩]
def limL (most : Int) (es : List E) : List E := es.flatMap (limE most)
theorem limL_take {most : Int} {es : List E} {i : Nat} (h : i < es.length) : limL most (es.take (i + 1)) = limL most (es.take i) ++ limE most es[i] := by
 rw [List.take_succ_eq_append_getElem h]; simp only [limL, List.flatMap_append, List.flatMap_cons, List.flatMap_nil, List.append_nil]
theorem limL_len (most : Int) (es : List E) : (limL most es).length ≤ es.length := by
 induction es with
 | nil => simp [limL]
 | cons x xs ih =>
  simp only [limL, List.flatMap_cons, List.length_append, List.length_cons] at ih ⊢
  have : (limE most x).length ≤ 1 := by unfold limE; split <;> simp
  omega
def limG (g : G) (most : Int) : G := if checkG g ≠ 0 then ⟨0, []⟩ else ⟨g.n, limL most g.es⟩
theorem limited_ok (g : G) (most : Int) (hl : g.es.length < 2 ^ 20) : ACall Try.prog 76 [tG g, tint most] (.tup [tG (limG g most), tint (checkG g)]) := by
 have hC := Check_ok g (by omega)
 refine ACall.of_body Try.func76 rfl (by kernel_rfl) ?_
 simp only [entry, Try.ntmps76, tG, tint]
 refine zU ?_
 by_cases hc : checkG g = 0
 case neg =>
  have e : limG g most = ⟨0, []⟩ := if_pos hc
  generalize checkG g = E at *
  refine zR (zc @hc trivial) (zc hC trivial) trivial ?_
  simp [Rets, aret, Blk.cells, ty, Try.results76, ares, toT1, toT, borrow, borrow0, capCell, toTree0, tint, tG, e, eRows]
 rw [hc] at hC ⊢
 have e : limG g most = ⟨g.n, limL most g.es⟩ := if_neg (by omega)
 refine zR (zc @eRows_len trivial) (zc hC trivial) trivial ?_
 refine AWp.weak (Weak.openB 2 1 3 rfl rfl (by omega)) ?_
 simp only [List.set_cons_succ, List.set_cons_zero, List.length_cons, List.length_nil, List.length_append, Nat.reduceAdd, List.cons_append, List.nil_append]
 refine AWp.loopS (α:=Nat) 44 (fun i=>[(1,.c (.int .i64 most)),(2,.c (.ptr 0 0)),(4,.c (.ptr 1 0)),(5,.c (.int .i64 0)),(7,.c (.ptr 2 0)),(20,.c (.slice (eRows g.es) .none)),(21,.c (.int .i64 g.es.length)),(22,.c (.int .i64 (i : Int)))]) (fun i=>[.box [.int .i64 g.n, .slice (eRows g.es) .none], .box [.int .i64 0, .nils], .box [.int .i64 g.n, .slice (eRows (limL most (g.es.take i))) (.chain 3)], .chain (limL most (g.es.take i)).length 3]) (fun i=>i ≤ g.es.length) (fun i=>g.es.length - i) (0) (hk:=Weak.headL 4 44 [1, 2, 4, 5, 7, 20, 21, 22] zW) (h0:=?_) (round:=fun i hI=>?_)
 ·exact Nat.zero_le _
 ·have hi : i ≤ g.es.length := hI
  clear hI
  by_cases hlt : i < g.es.length
  ·have e1 := eRows_get (List.getElem?_eq_getElem hlt)
   have hnx := limL_take (most := most) hlt
   have hbl := limL_len most (g.es.take i)
   rw [List.length_take] at hbl
   generalize limL most (g.es.take i) = d at *
   generalize g.es[i] = x at *
   by_cases hx : x.a = x.b
   ·have e2 : limE most x = [] := if_pos hx
    rw [e2, List.append_nil] at hnx
    refine zR (zc @e1 (zc @hx (zc @Int.ofNat_lt trivial))) trivial trivial ?_
    refine ⟨i + 1,Weak.headF 4 44 [1, 2, 4, 5, 7, 20, 21, 22] (zc @hnx trivial) zW,?_,?_⟩
    ·exact hlt
    ·omega
   ·have e2 : limE most x = [⟨x.a, x.b, min x.m most⟩] := if_neg hx
    rw [e2] at hnx
    have hsn := eRows_snoc d ⟨x.a, x.b, min x.m most⟩
    refine zRc (zc @e1 (zc @hx (zc @Int.ofNat_lt (zc @eRows_len (zc @hsn trivial))))) trivial @eRows_k' ?_
    refine ⟨i + 1,Weak.headF 4 44 [1, 2, 4, 5, 7, 20, 21, 22] (zc @hnx trivial) zW,?_,?_⟩
    ·exact hlt
    ·omega
  ·have ei : i = g.es.length := by omega
   subst ei
   rw [List.take_length]
   refine zR (zc @Int.ofNat_lt trivial) trivial trivial ?_
   simp [Rets, aret, Blk.cells, ty, Try.results76, ares, toT1, toT, borrow, borrow0, capCell, toTree0, tint, tG, e]
theorem Loopless_ok (g : G) (hl : g.es.length < 2 ^ 20) : ACall Try.prog 58 [tG g] (.tup [tG (limG g 50), tint (checkG g)]) := by
 have h := limited_ok g 50 hl
 refine ACall.of_body Try.func58 rfl (by kernel_rfl) ?_
 simp only [entry, Try.ntmps58, tG]
 refine zU ?_
 refine zR trivial (zc h trivial) trivial ?_
 simp [Rets, aret, Blk.cells, ty, Try.results58, ares, toT1, toT, borrow, borrow0, capCell, toTree0, tint, tG]
end Go.Proofs.Ytdhfgihnoimoaaa
