/- A part of the proof. -/
import Derived.Test.YtdhfgihnoimoaaaPart01
import Derived.Test.YtdhfgihnoimoaaaLayerC
import Derived.Test.YtdhfgihnoimoaaaLayerB
set_option linter.all false
set_option maxHeartbeats 4000000
set_option maxRecDepth 100000
namespace Go.Proofs.Ytdhfgihnoimoaaa
open Go.Sp
def tint (n : Int) : TVal := .t (.int .i64 n)
def tbool (b : Bool) : TVal := .t (.bool b)
def tpair (a b : Int) : TVal := .agg [.int .i64 a, .int .i64 b]
attribute [go_sem] tint tbool tpair
theorem isNaN_ok (n : Int) : ACall Try.prog 124 [tint n] (tbool false) := by
 refine ACall.of_body Try.func124 rfl (by kernel_rfl) ?_
 simp only [entry, Try.ntmps124, tint]
 refine zU ?_
 refine zR trivial trivial trivial ?_
 simp [Rets, aret, Blk.cells, ty, Try.results124, ares, toT1, toT, borrow, borrow0, capCell, toTree0, tbool]
theorem vertex_ok (n v : Int) : ACall Try.prog 98 [tint n, tint v] (tbool (decide (0 ≤ v ∧ v < n))) := by
 refine ACall.of_body Try.func98 rfl (by kernel_rfl) ?_
 simp only [entry, Try.ntmps98, tint]
 refine zU ?_
 repeat' (first|((first|(refine zT ?_;intro K' hK')|(refine zG ?_ ?_<;>(try refine zH ?_)<;>intro hguard<;>(try exact zX)<;>try intro K' hK'))<;>((try simp +contextual only [go_sem]);(repeat' first|(with_reducible refine hK' _ _ ?_;clear hK' K')|exact zY|with_reducible refine And.intro ?_ ?_|(with_reducible intro hpath;try exact zP)|(refine hK' _ _ ?_;clear hK' K')|fail);try refine zS ?_))|(refine zE ?_;refine hK _ _ ?_;clear hK K)|(refine zN ?_;try refine zS ?_)|refine zA ?_|(refine zB ?_;intro K hK)|(refine zC ?_ ?_<;>(try refine zH ?_)<;>intro hcond<;>try exact zX)|fail)
 all_goals
  simp [Rets, aret, Blk.cells, ty, Try.results98, ares, toT1, toT, borrow, borrow0, capCell, toTree0, tbool]
 all_goals omega
def cmpI (a b : Int) : Int := if a < b then -1 else if b < a then 1 else 0
theorem Compare_ok (a b : Int) : ACall Try.prog 117 [tint a, tint b] (tint (cmpI a b)) := by
 refine ACall.of_body Try.func117 rfl (by kernel_rfl) ?_
 simp only [entry, Try.ntmps117, tint]
 refine zU ?_
 repeat' (first|((first|(refine zT ?_;intro K' hK')|(refine zG ?_ ?_<;>(try refine zH ?_)<;>intro hguard<;>(try exact zX)<;>try intro K' hK'))<;>((try simp +contextual only [go_sem]);(repeat' first|(with_reducible refine hK' _ _ ?_;clear hK' K')|(with_reducible refine zK (isNaN_ok _) ?_;try simp +contextual only [go_sem])|exact zY|with_reducible refine And.intro ?_ ?_|(with_reducible intro hpath;try exact zP)|(refine hK' _ _ ?_;clear hK' K')|fail);try refine zS ?_))|(refine zE ?_;refine hK _ _ ?_;clear hK K)|(refine zN ?_;try refine zS ?_)|refine zA ?_|(refine zB ?_;intro K hK)|(refine zC ?_ ?_<;>(try refine zH ?_)<;>intro hcond<;>try exact zX)|fail)
 all_goals
  simp [Rets, aret, Blk.cells, ty, Try.results117, ares, toT1, toT, borrow, borrow0, capCell, toTree0, tint, cmpI]
 all_goals omega
def ints (xs : List Int) : Tree := .slice (xs.map fun x => [.int .i64 x])
def orI : List Int → Int
 | [] => 0
 | x :: xs => if x ≠ 0 then x else orI xs
theorem Or_ok (xs : List Int) (hl : xs.length < 2 ^ 40) : ACall Try.prog 116 [.t (ints xs)] (tint (orI xs)) := by
 refine ACall.of_body Try.func116 rfl (by kernel_rfl) ?_
 simp only [entry, Try.ntmps116, ints]
 refine zU ?_
 repeat' (first|((first|(refine zT ?_;intro K' hK')|(refine zG ?_ ?_<;>(try refine zH ?_)<;>intro hguard<;>(try exact zX)<;>try intro K' hK'))<;>((try simp +contextual only [go_sem, List.length_map]);(repeat' first|(with_reducible refine hK' _ _ ?_;clear hK' K')|exact zY|with_reducible refine And.intro ?_ ?_|(with_reducible intro hpath;try exact zP)|(refine hK' _ _ ?_;clear hK' K')|fail);try refine zS ?_))|(refine zE ?_;refine hK _ _ ?_;clear hK K)|(refine zN ?_;try refine zS ?_)|refine zA ?_|(refine zB ?_;intro K hK)|(refine zC ?_ ?_<;>(try refine zH ?_)<;>intro hcond<;>try exact zX)|fail)
 refine AWp.loopS (α:=Nat) 18 (fun k=>[(3,.c (.int .i64 0)),(6,.c (.slice (xs.map fun x => [.int .i64 x]) .none)),(7,.c (.int .i64 xs.length)),(8,.c (.int .i64 (k : Int)))]) (fun k=>[]) (fun k=>k ≤ xs.length ∧ orI xs = orI (xs.drop k)) (fun k=>xs.length - k) (0) (hk:=Weak.headL 0 18 [3, 6, 7, 8] zW) (h0:=?_) (round:=fun k hI=>?_)
 ·exact ⟨Nat.zero_le _, rfl⟩
 ·obtain ⟨hk, hx⟩ := hI
  by_cases hlt : k < xs.length
  ·have e1 : xs[k]? = some xs[k] := List.getElem?_eq_getElem hlt
   repeat' (first|((first|(refine zT ?_;intro K' hK')|(refine zG ?_ ?_<;>(try refine zH ?_)<;>intro hguard<;>(try exact zX)<;>try intro K' hK'))<;>((try simp +contextual only [go_sem, List.getElem?_map, Int.toNat_natCast, e1]);(repeat' first|(with_reducible refine hK' _ _ ?_;clear hK' K')|exact zY|with_reducible refine And.intro ?_ ?_|(with_reducible intro hpath;try exact zP)|(refine hK' _ _ ?_;clear hK' K')|fail);try refine zS ?_))|(refine zE ?_;refine hK _ _ ?_;clear hK K)|(refine zN ?_;try refine zS ?_)|refine zA ?_|(refine zB ?_;intro K hK)|(refine zC ?_ ?_<;>(try refine zH ?_)<;>intro hcond<;>try exact zX)|fail)
   ·have hxk : orI xs = xs[k] := by rw [hx, List.drop_eq_getElem_cons hlt, orI]; simp_all
    simp [Rets, aret, Blk.cells, ty, Try.results116, ares, toT1, toT, borrow, borrow0, capCell, toTree0, tint, hxk]
   ·refine ⟨k + 1,Weak.headN 0 18 [3, 6, 7, 8] zW,?_,?_⟩
    ·exact ⟨hlt, by rw [hx, List.drop_eq_getElem_cons hlt, orI]; simp_all⟩
    ·omega
  ·have ek : k = xs.length := by omega
   have h0 : orI xs = 0 := by rw [hx, ek, List.drop_length, orI]
   refine zR (zc @Int.ofNat_lt trivial) trivial trivial ?_
   simp [Rets, aret, Blk.cells, ty, Try.results116, ares, toT1, toT, borrow, borrow0, capCell, toTree0, tint, h0]
theorem compare_ok (a b c d : Int) : ACall Try.prog 99 [tpair a b, tpair c d] (tint (orI [cmpI a c, cmpI b d])) := by
 refine ACall.of_body Try.func99 rfl (by kernel_rfl) ?_
 simp only [entry, Try.ntmps99, tpair]
 refine zU ?_
 repeat' (first|((first|(refine zT ?_;intro K' hK')|(refine zG ?_ ?_<;>(try refine zH ?_)<;>intro hguard<;>(try exact zX)<;>try intro K' hK'))<;>((try simp +contextual only [go_sem, ints, chunks, List.range, List.range.loop]);(repeat' first|(with_reducible refine hK' _ _ ?_;clear hK' K')|((with_reducible first|refine zK (Compare_ok _ _) ?_|refine zL (c:=Or_ok [_, _] (by simp)) (q:=?_));try simp +contextual only [go_sem, ints, chunks, List.range, List.range.loop])|exact zY|with_reducible refine And.intro ?_ ?_|(with_reducible intro hpath;try exact zP)|(refine hK' _ _ ?_;clear hK' K')|fail);try refine zS ?_))|(refine zE ?_;refine hK _ _ ?_;clear hK K)|(refine zN ?_;try refine zS ?_)|refine zA ?_|(refine zB ?_;intro K hK)|(refine zC ?_ ?_<;>(try refine zH ?_)<;>intro hcond<;>try exact zX)|fail)
 simp [Rets, aret, Blk.cells, ty, Try.results99, ares, toT1, toT, borrow, borrow0, capCell, toTree0, tint]
end Go.Proofs.Ytdhfgihnoimoaaa
namespace Go.Proofs.Ytdhfgihnoimoaaa
open Go.Sp Go.RowKit
end Go.Proofs.Ytdhfgihnoimoaaa
namespace Go.Proofs.Ytdhfgihnoimoaaa
open Go.Sp
theorem klInt : KeyLaw Try.prog 3 .int := keyLaw_int Try.underlying3
end Go.Proofs.Ytdhfgihnoimoaaa
namespace Go.Proofs.Ytdhfgihnoimoaaa
structure Eqv (N : Nat) (R : Nat → Nat → Prop) : Prop where
 refl : ∀ x, x < N → R x x
 symm : ∀ x y, x < N → y < N → R x y → R y x
 trans : ∀ x y z, x < N → y < N → z < N → R x y → R y z → R x z
open Classical in
noncomputable def ncls (N : Nat) (R : Nat → Nat → Prop) : Nat := ((List.range N).filter fun h => decide (∀ y, y < N → R h y → h ≤ y)).length
theorem least_of {P : Nat → Prop} {x : Nat} (hx : P x) : ∃ m, m ≤ x ∧ P m ∧ ∀ y, P y → m ≤ y := by
 induction x using Nat.strongRecOn with
 | _ x ih =>
  by_cases h : ∃ y, y < x ∧ P y
  ·obtain ⟨y, h1, h2⟩ := h
   obtain ⟨m, q1, q2, q3⟩ := ih y h1 h2
   exact ⟨m, by omega, q2, q3⟩
  ·exact ⟨x, Nat.le_refl _, hx, fun y hy => Nat.le_of_not_lt fun hlt => h ⟨y, hlt, hy⟩⟩
end Go.Proofs.Ytdhfgihnoimoaaa
namespace Go.Proofs.Ytdhfgihnoimoaaa
open Go.Sp
structure E where
 (a b m : Int)
structure G where
 (n : Int) (es : List E)
def eRow (e : E) : List Tree := [.int .i64 e.a, .int .i64 e.b, .int .i64 e.m]
def eRows (es : List E) : List (List Tree) := es.map eRow
def tG (g : G) : TVal := .agg [.int .i64 g.n, .slice (eRows g.es)]
attribute [go_sem] tG
def pRow (p : Int × Int) : List Tree := [.int .i64 p.1, .int .i64 p.2]
def pRows (l : List (Int × Int)) : List (List Tree) := l.map pRow
def endsL (es : List E) : List (Int × Int) := es.flatMap fun e => List.replicate e.m.toNat (e.a, e.b)
theorem eRows_len (es : List E) : (eRows es).length = es.length := by simp [eRows]
theorem pRows_len (es : List (Int × Int)) : (pRows es).length = es.length := by simp [pRows]
theorem pRows_snoc (l : List (Int × Int)) (a b : Int) : pRows l ++ [[.int .i64 a, .int .i64 b]] = pRows (l ++ [(a, b)]) := by simp [pRows, pRow]
theorem pRows_k' {l : List (Int × Int)} {r : List Tree} (h : r ∈ pRows l) : r.length = 2 := by
 obtain ⟨x, _, rfl⟩ := List.mem_map.1 h
 rfl
theorem endsL_append (a b : List E) : endsL (a ++ b) = endsL a ++ endsL b := by unfold endsL; exact List.flatMap_append
theorem endsL_one (e : E) : endsL [e] = List.replicate e.m.toNat (e.a, e.b) := by simp [endsL]
theorem endsL_take {es : List E} {i : Nat} (h : i < es.length) : endsL (es.take (i + 1)) = endsL (es.take i) ++ List.replicate es[i].m.toNat (es[i].a, es[i].b) := by
 rw [List.take_succ_eq_append_getElem h, endsL_append, endsL_one]
theorem endsL_take_le (es : List E) (i : Nat) : (endsL (es.take i)).length ≤ (endsL es).length := by
 have : endsL es = endsL (es.take i) ++ endsL (es.drop i) := by rw [← endsL_append, List.take_append_drop]
 rw [this, List.length_append]; omega
theorem eRows_get {es : List E} {i : Nat} {e : E} (h : es[i]? = some e) : (eRows es)[i]? = some [.int .i64 e.a, .int .i64 e.b, .int .i64 e.m] := by
 simp [eRows, h, eRow]
theorem EndsR_ok (g : G) (hs : (endsL g.es).length < 2 ^ 40) (hl : g.es.length < 2 ^ 40) (hm : ∀ e, e ∈ g.es → e.m < 2 ^ 40) : ACall Try.prog 97 [tG g] (.t (.slice (pRows (endsL g.es)))) := by
 refine ACall.of_body Try.func97 rfl (by kernel_rfl) ?_
 simp only [entry, Try.ntmps97, tG]
 refine zU ?_
 refine zR trivial trivial trivial ?_
 refine AWp.weak (Weak.opens ((fun t f => [f, f, f, t, f, f, f, f, f, f, f, f, f, f, f, f, f, f, f, f, f, f, f, f, f, f, f, f, f, f, f, f, f, f, f, f, f, f, f, f]) true false) 2 (by first | omega | simp)) ?_
 simp only [openS, openV, List.length_cons, List.length_nil, List.length_append, Nat.reduceAdd, List.cons_append, List.nil_append]
 refine AWp.loopS (α:=Nat) 40 (fun i=>[(1,.c (.ptr 0 0)),(3,.c (.slice (pRows (endsL (g.es.take i))) (.chain 1))),(4,.c (.int .i64 (i : Int)))]) (fun i=>[.box [.int .i64 g.n, .slice (eRows g.es) .none], .chain (endsL (g.es.take i)).length 2]) (fun i=>i ≤ g.es.length) (fun i=>g.es.length - i) (0) (hk:=Weak.headL 2 40 [1, 3, 4] zW) (h0:=?_) (round:=fun i hI=>?_)
 ·exact Nat.zero_le _
 ·by_cases hlt : i < g.es.length
  ·have e1 : g.es[i]? = some g.es[i] := List.getElem?_eq_getElem hlt
   have e2 := eRows_get e1
   have hle := endsL_take_le g.es (i + 1)
   rw [endsL_take hlt, List.length_append, List.length_replicate] at hle
   have hmi := hm g.es[i] (List.getElem_mem hlt)
   repeat' (first|((first|(refine zT ?_;intro K' hK')|(refine zG ?_ ?_<;>(try refine zH ?_)<;>intro hguard<;>(try exact zX)<;>try intro K' hK'))<;>((try simp +contextual only [go_sem, eRows_len, Int.ofNat_lt]);(repeat' first|(with_reducible refine hK' _ _ ?_;clear hK' K')|exact zY|with_reducible refine And.intro ?_ ?_|(with_reducible intro hpath;try exact zP)|(refine hK' _ _ ?_;clear hK' K')|fail);try refine zS ?_))|(refine zE ?_;refine hK _ _ ?_;clear hK K)|(refine zN ?_;try refine zS ?_)|refine zA ?_|(refine zB ?_;intro K hK)|(refine zC ?_ ?_<;>(try refine zH ?_)<;>intro hcond<;>try exact zX)|fail)
   ·
    refine AWp.loopS (α:=Nat) 40 (fun k=>[(1,.c (.ptr 0 0)),(3,.c (.slice (pRows (endsL (g.es.take i) ++ List.replicate k (g.es[i].a, g.es[i].b))) (.chain 1))),(4,.c (.int .i64 (i : Int))),(5,.c (.int .i64 (k : Int)))]) (fun k=>[.box [.int .i64 g.n, .slice (eRows g.es) .none], .chain ((endsL (g.es.take i)).length + k) 2]) (fun k=>k ≤ g.es[i].m.toNat) (fun k=>g.es[i].m.toNat - k) (0) (hk:=Weak.headL 2 40 [1, 3, 4, 5] zW) (h0:=?_) (round:=fun k hI=>?_)
    ·exact Nat.zero_le _
    ·by_cases hk : (k : Int) < g.es[i].m
     ·
      have hk2 : k < g.es[i].m.toNat := by omega
      repeat' (first|((first|(refine zT ?_;intro K' hK')|(refine zG ?_ ?_<;>(try refine zH ?_)<;>intro hguard<;>(try exact zX)<;>try intro K' hK'))<;>((try simp +contextual only [go_sem, e2, Int.toNat_natCast, List.length_append, List.length_replicate, pRows_len, chunks, List.range, List.range.loop, pRows_snoc, List.append_assoc, ← List.replicate_succ']);(repeat' first|(with_reducible refine hK' _ _ ?_;clear hK' K')|(with_reducible exact pRows_k' (by assumption))|exact zY|with_reducible refine And.intro ?_ ?_|(with_reducible intro hpath;try exact zP)|(refine hK' _ _ ?_;clear hK' K')|fail);try refine zS ?_))|(refine zE ?_;refine hK _ _ ?_;clear hK K)|(refine zN ?_;try refine zS ?_)|refine zA ?_|(refine zB ?_;intro K hK)|(refine zC ?_ ?_<;>(try refine zH ?_)<;>intro hcond<;>try exact zX)|fail)
      refine ⟨k + 1,Weak.headN 2 40 [1, 3, 4, 5] zW (e1:=by first|rfl|(simp [mask,keepL, Nat.add_assoc, List.replicate_succ];done)|(simp [mask,keepL, Nat.add_assoc, List.replicate_succ]<;>simp_all<;>omega)) (e2:=by first|rfl|(simp [mask,keepL, Nat.add_assoc, List.replicate_succ];done)|(simp [mask,keepL, Nat.add_assoc, List.replicate_succ]<;>simp_all<;>omega)),?_,?_⟩
      ·exact hk2
      ·omega
     ·
      have ek : k = g.es[i].m.toNat := by omega
      refine zR (zc @e2 trivial) trivial trivial ?_
      refine ⟨i + 1,Weak.headN 2 40 [1, 3, 4] zW (e1:=by first|rfl|(simp [mask,keepL, endsL_take hlt, ek];done)|(simp [mask,keepL, endsL_take hlt, ek]<;>simp_all<;>omega)) (e2:=by first|rfl|(simp [mask,keepL, endsL_take hlt, ek];done)|(simp [mask,keepL, endsL_take hlt, ek]<;>simp_all<;>omega)),?_,?_⟩
      ·exact hlt
      ·omega
  ·have ei : i = g.es.length := by omega
   refine zR (zc @eRows_len (zc @Int.ofNat_lt trivial)) trivial trivial ?_
   simp [Rets, aret, Blk.cells, ty, Try.results97, ares, toT1, toT, borrow, borrow0, capCell, toTree0, ei]
end Go.Proofs.Ytdhfgihnoimoaaa
