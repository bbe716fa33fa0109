/- A part of the proof. -/
import Derived.Test.YtgklecfiflhjmaaPart01
import Derived.Test.YtgklecfiflhjmaaLayerC
import Derived.Test.YtgklecfiflhjmaaLayerB
set_option linter.all false
set_option maxHeartbeats 4000000
set_option maxRecDepth 100000
namespace Go.Proofs.Ytgklecfiflhjmaa
structure Eqv (N : Nat) (R : Nat → Nat → Prop) : Prop where
 refl : ∀ x, x < N → R x x
 symm : ∀ x y, x < N → y < N → R x y → R y x
 trans : ∀ x y z, x < N → y < N → z < N → R x y → R y z → R x z
end Go.Proofs.Ytgklecfiflhjmaa
namespace Go.Proofs.Ytgklecfiflhjmaa
open Go.Sp
def tint (n : Int) : TVal := .t (.int .i64 n)
def tbool (b : Bool) : TVal := .t (.bool b)
def tpair (a b : Int) : TVal := .agg [.int .i64 a, .int .i64 b]
attribute [go_sem] tint tbool tpair
theorem isNaN_ok (n : Int) : ACall Try.prog 93 [tint n] (tbool false) := by
 refine ACall.of_body Try.func93 rfl (by kernel_rfl) ?_
 simp only [entry, Try.ntmps93, tint]
 refine zU ?_
 refine zR trivial trivial trivial ?_
 simp [Rets, aret, Blk.cells, ty, Try.results93, ares, toT1, toT, borrow, borrow0, capCell, toTree0, tbool]
theorem vertex_ok (n v : Int) : ACall Try.prog 72 [tint n, tint v] (tbool (decide (0 ≤ v ∧ v < n))) := by
 refine ACall.of_body Try.func72 rfl (by kernel_rfl) ?_
 simp only [entry, Try.ntmps72, tint]
 refine zU ?_
 repeat' (first|((first|(refine zT ?_;intro K' hK')|(refine zG ?_ ?_<;>(try refine zH ?_)<;>intro hguard<;>(try exact zX)<;>try intro K' hK'))<;>((try simp +contextual only [go_sem]);(repeat' first|(with_reducible refine hK' _ _ ?_;clear hK' K')|exact zY|with_reducible refine And.intro ?_ ?_|(with_reducible intro hpath;try exact zP)|(refine hK' _ _ ?_;clear hK' K')|fail);try refine zS ?_))|(refine zE ?_;refine hK _ _ ?_;clear hK K)|(refine zN ?_;try refine zS ?_)|refine zA ?_|(refine zB ?_;intro K hK)|(refine zC ?_ ?_<;>(try refine zH ?_)<;>intro hcond<;>try exact zX)|fail)
 all_goals
  simp [Rets, aret, Blk.cells, ty, Try.results72, ares, toT1, toT, borrow, borrow0, capCell, toTree0, tbool]
 all_goals omega
def cmpI (a b : Int) : Int := if a < b then -1 else if b < a then 1 else 0
theorem Compare_ok (a b : Int) : ACall Try.prog 82 [tint a, tint b] (tint (cmpI a b)) := by
 refine ACall.of_body Try.func82 rfl (by kernel_rfl) ?_
 simp only [entry, Try.ntmps82, tint]
 refine zU ?_
 repeat' (first|((first|(refine zT ?_;intro K' hK')|(refine zG ?_ ?_<;>(try refine zH ?_)<;>intro hguard<;>(try exact zX)<;>try intro K' hK'))<;>((try simp +contextual only [go_sem]);(repeat' first|(with_reducible refine hK' _ _ ?_;clear hK' K')|(with_reducible refine zK (isNaN_ok _) ?_;try simp +contextual only [go_sem])|exact zY|with_reducible refine And.intro ?_ ?_|(with_reducible intro hpath;try exact zP)|(refine hK' _ _ ?_;clear hK' K')|fail);try refine zS ?_))|(refine zE ?_;refine hK _ _ ?_;clear hK K)|(refine zN ?_;try refine zS ?_)|refine zA ?_|(refine zB ?_;intro K hK)|(refine zC ?_ ?_<;>(try refine zH ?_)<;>intro hcond<;>try exact zX)|fail)
 all_goals
  simp [Rets, aret, Blk.cells, ty, Try.results82, ares, toT1, toT, borrow, borrow0, capCell, toTree0, tint, cmpI]
 all_goals omega
def ints (xs : List Int) : Tree := .slice (xs.map fun x => [.int .i64 x])
def orI : List Int → Int
 | [] => 0
 | x :: xs => if x ≠ 0 then x else orI xs
theorem Or_ok (xs : List Int) (hl : xs.length < 2 ^ 40) : ACall Try.prog 85 [.t (ints xs)] (tint (orI xs)) := by
 refine ACall.of_body Try.func85 rfl (by kernel_rfl) ?_
 simp only [entry, Try.ntmps85, ints]
 refine zU ?_
 repeat' (first|((first|(refine zT ?_;intro K' hK')|(refine zG ?_ ?_<;>(try refine zH ?_)<;>intro hguard<;>(try exact zX)<;>try intro K' hK'))<;>((try simp +contextual only [go_sem, List.length_map]);(repeat' first|(with_reducible refine hK' _ _ ?_;clear hK' K')|exact zY|with_reducible refine And.intro ?_ ?_|(with_reducible intro hpath;try exact zP)|(refine hK' _ _ ?_;clear hK' K')|fail);try refine zS ?_))|(refine zE ?_;refine hK _ _ ?_;clear hK K)|(refine zN ?_;try refine zS ?_)|refine zA ?_|(refine zB ?_;intro K hK)|(refine zC ?_ ?_<;>(try refine zH ?_)<;>intro hcond<;>try exact zX)|fail)
 refine AWp.loopS (α:=Nat) 18 (fun k=>[(3,.c (.int .i64 0)),(6,.c (.slice (xs.map fun x => [.int .i64 x]) .none)),(7,.c (.int .i64 xs.length)),(8,.c (.int .i64 (k : Int)))]) (fun k=>[]) (fun k=>k ≤ xs.length ∧ orI xs = orI (xs.drop k)) (fun k=>xs.length - k) (0) (hk:=Weak.headL 0 18 [3, 6, 7, 8] zW) (h0:=?_) (round:=fun k hI=>?_)
 ·exact ⟨Nat.zero_le _, rfl⟩
 ·obtain ⟨hk, hx⟩ := hI
  by_cases hlt : k < xs.length
  ·have e1 : xs[k]? = some xs[k] := List.getElem?_eq_getElem hlt
   repeat' (first|((first|(refine zT ?_;intro K' hK')|(refine zG ?_ ?_<;>(try refine zH ?_)<;>intro hguard<;>(try exact zX)<;>try intro K' hK'))<;>((try simp +contextual only [go_sem, List.getElem?_map, Int.toNat_natCast, e1]);(repeat' first|(with_reducible refine hK' _ _ ?_;clear hK' K')|exact zY|with_reducible refine And.intro ?_ ?_|(with_reducible intro hpath;try exact zP)|(refine hK' _ _ ?_;clear hK' K')|fail);try refine zS ?_))|(refine zE ?_;refine hK _ _ ?_;clear hK K)|(refine zN ?_;try refine zS ?_)|refine zA ?_|(refine zB ?_;intro K hK)|(refine zC ?_ ?_<;>(try refine zH ?_)<;>intro hcond<;>try exact zX)|fail)
   ·have hxk : orI xs = xs[k] := by rw [hx, List.drop_eq_getElem_cons hlt, orI]; simp_all
    simp [Rets, aret, Blk.cells, ty, Try.results85, ares, toT1, toT, borrow, borrow0, capCell, toTree0, tint, hxk]
   ·refine ⟨k + 1,Weak.headN 0 18 [3, 6, 7, 8] zW,?_,?_⟩
    ·exact ⟨hlt, by rw [hx, List.drop_eq_getElem_cons hlt, orI]; simp_all⟩
    ·omega
  ·have ek : k = xs.length := by omega
   have h0 : orI xs = 0 := by rw [hx, ek, List.drop_length, orI]
   refine zR (zc @Int.ofNat_lt trivial) trivial trivial ?_
   simp [Rets, aret, Blk.cells, ty, Try.results85, ares, toT1, toT, borrow, borrow0, capCell, toTree0, tint, h0]
theorem compare_ok (a b c d : Int) : ACall Try.prog 73 [tpair a b, tpair c d] (tint (orI [cmpI a c, cmpI b d])) := by
 refine ACall.of_body Try.func73 rfl (by kernel_rfl) ?_
 simp only [entry, Try.ntmps73, tpair]
 refine zU ?_
 repeat' (first|((first|(refine zT ?_;intro K' hK')|(refine zG ?_ ?_<;>(try refine zH ?_)<;>intro hguard<;>(try exact zX)<;>try intro K' hK'))<;>((try simp +contextual only [go_sem, ints, chunks, List.range, List.range.loop]);(repeat' first|(with_reducible refine hK' _ _ ?_;clear hK' K')|((with_reducible first|refine zK (Compare_ok _ _) ?_|refine zL (c:=Or_ok [_, _] (by simp)) (q:=?_));try simp +contextual only [go_sem, ints, chunks, List.range, List.range.loop])|exact zY|with_reducible refine And.intro ?_ ?_|(with_reducible intro hpath;try exact zP)|(refine hK' _ _ ?_;clear hK' K')|fail);try refine zS ?_))|(refine zE ?_;refine hK _ _ ?_;clear hK K)|(refine zN ?_;try refine zS ?_)|refine zA ?_|(refine zB ?_;intro K hK)|(refine zC ?_ ?_<;>(try refine zH ?_)<;>intro hcond<;>try exact zX)|fail)
 simp [Rets, aret, Blk.cells, ty, Try.results73, ares, toT1, toT, borrow, borrow0, capCell, toTree0, tint]
end Go.Proofs.Ytgklecfiflhjmaa
namespace Go.Proofs.Ytgklecfiflhjmaa
open Go.Sp Go.RowKit
end Go.Proofs.Ytgklecfiflhjmaa
namespace Go.Proofs.Ytgklecfiflhjmaa
open Go.Sp
theorem klInt : KeyLaw Try.prog 3 .int := keyLaw_int Try.underlying3
end Go.Proofs.Ytgklecfiflhjmaa
