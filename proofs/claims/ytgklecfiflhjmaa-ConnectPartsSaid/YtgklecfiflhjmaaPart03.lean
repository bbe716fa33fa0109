/- A part of the proof. -/
import Derived.Test.YtgklecfiflhjmaaPart02
import Derived.Test.YtgklecfiflhjmaaLayerC
set_option linter.all false
set_option maxHeartbeats 4000000
set_option maxRecDepth 100000
namespace Go.Proofs.Ytgklecfiflhjmaa
open Go.Sp
structure E where
 (a b m : Int)
structure G where
 (n : Int) (es : List E)
def eRow (e : E) : List Tree := [.int .i64 e.a, .int .i64 e.b, .int .i64 e.m]
def eRows (es : List E) : List (List Tree) := es.map eRow
def tG (g : G) : TVal := .agg [.int .i64 g.n, .slice (eRows g.es)]
attribute [go_sem] tG
def pRow (p : Int × Int) : List Tree := [.int .i64 p.1, .int .i64 p.2]
def pRows (l : List (Int × Int)) : List (List Tree) := l.map pRow
def endsL (es : List E) : List (Int × Int) := es.flatMap fun e => List.replicate e.m.toNat (e.a, e.b)
theorem eRows_len (es : List E) : (eRows es).length = es.length := by simp [eRows]
theorem pRows_len (es : List (Int × Int)) : (pRows es).length = es.length := by simp [pRows]
theorem pRows_get {l : List (Int × Int)} {i : Nat} {p : Int × Int} (h : l[i]? = some p) : (pRows l)[i]? = some [.int .i64 p.1, .int .i64 p.2] := by simp [pRows, pRow, h]
theorem pRows_snoc (l : List (Int × Int)) (a b : Int) : pRows l ++ [[.int .i64 a, .int .i64 b]] = pRows (l ++ [(a, b)]) := by simp [pRows, pRow]
theorem pRows_k' {l : List (Int × Int)} {r : List Tree} (h : r ∈ pRows l) : r.length = 2 := by
 obtain ⟨x, _, rfl⟩ := List.mem_map.1 h
 rfl
theorem endsL_append (a b : List E) : endsL (a ++ b) = endsL a ++ endsL b := by unfold endsL; exact List.flatMap_append
theorem endsL_one (e : E) : endsL [e] = List.replicate e.m.toNat (e.a, e.b) := by simp [endsL]
theorem endsL_take {es : List E} {i : Nat} (h : i < es.length) : endsL (es.take (i + 1)) = endsL (es.take i) ++ List.replicate es[i].m.toNat (es[i].a, es[i].b) := by
 rw [List.take_succ_eq_append_getElem h, endsL_append, endsL_one]
theorem endsL_take_le (es : List E) (i : Nat) : (endsL (es.take i)).length ≤ (endsL es).length := by
 have : endsL es = endsL (es.take i) ++ endsL (es.drop i) := by rw [← endsL_append, List.take_append_drop]
 rw [this, List.length_append]; omega
theorem eRows_get {es : List E} {i : Nat} {e : E} (h : es[i]? = some e) : (eRows es)[i]? = some [.int .i64 e.a, .int .i64 e.b, .int .i64 e.m] := by
 simp [eRows, h, eRow]
theorem EndsR_ok (g : G) (hs : (endsL g.es).length < 2 ^ 40) (hl : g.es.length < 2 ^ 40) (hm : ∀ e, e ∈ g.es → e.m < 2 ^ 40) : ACall Try.prog 27 [tG g] (.t (.slice (pRows (endsL g.es)))) := by
 refine ACall.of_body Try.func27 rfl (by kernel_rfl) ?_
 simp only [entry, Try.ntmps27, tG]
 refine zU ?_
 refine zR trivial trivial trivial ?_
 refine AWp.weak (Weak.opens ((fun t f => [f, f, f, t, f, f, f, f, f, f, f, f, f, f, f, f, f, f, f, f, f, f, f, f, f, f, f, f, f, f, f, f, f, f, f, f, f, f, f, f]) true false) 2 (by first | omega | simp)) ?_
 simp only [openS, openV, List.length_cons, List.length_nil, List.length_append, Nat.reduceAdd, List.cons_append, List.nil_append]
 refine AWp.loopS (α:=Nat) 40 (fun i=>[(1,.c (.ptr 0 0)),(3,.c (.slice (pRows (endsL (g.es.take i))) (.chain 1))),(4,.c (.int .i64 (i : Int)))]) (fun i=>[.box [.int .i64 g.n, .slice (eRows g.es) .none], .chain (endsL (g.es.take i)).length 2]) (fun i=>i ≤ g.es.length) (fun i=>g.es.length - i) (0) (hk:=Weak.headL 2 40 [1, 3, 4] zW) (h0:=?_) (round:=fun i hI=>?_)
 ·exact Nat.zero_le _
 ·by_cases hlt : i < g.es.length
  ·have e1 : g.es[i]? = some g.es[i] := List.getElem?_eq_getElem hlt
   have e2 := eRows_get e1
   have hle := endsL_take_le g.es (i + 1)
   rw [endsL_take hlt, List.length_append, List.length_replicate] at hle
   have hmi := hm g.es[i] (List.getElem_mem hlt)
   repeat' (first|((first|(refine zT ?_;intro K' hK')|(refine zG ?_ ?_<;>(try refine zH ?_)<;>intro hguard<;>(try exact zX)<;>try intro K' hK'))<;>((try simp +contextual only [go_sem, eRows_len, Int.ofNat_lt]);(repeat' first|(with_reducible refine hK' _ _ ?_;clear hK' K')|exact zY|with_reducible refine And.intro ?_ ?_|(with_reducible intro hpath;try exact zP)|(refine hK' _ _ ?_;clear hK' K')|fail);try refine zS ?_))|(refine zE ?_;refine hK _ _ ?_;clear hK K)|(refine zN ?_;try refine zS ?_)|refine zA ?_|(refine zB ?_;intro K hK)|(refine zC ?_ ?_<;>(try refine zH ?_)<;>intro hcond<;>try exact zX)|fail)
   ·
    refine AWp.loopS (α:=Nat) 40 (fun k=>[(1,.c (.ptr 0 0)),(3,.c (.slice (pRows (endsL (g.es.take i) ++ List.replicate k (g.es[i].a, g.es[i].b))) (.chain 1))),(4,.c (.int .i64 (i : Int))),(5,.c (.int .i64 (k : Int)))]) (fun k=>[.box [.int .i64 g.n, .slice (eRows g.es) .none], .chain ((endsL (g.es.take i)).length + k) 2]) (fun k=>k ≤ g.es[i].m.toNat) (fun k=>g.es[i].m.toNat - k) (0) (hk:=Weak.headL 2 40 [1, 3, 4, 5] zW) (h0:=?_) (round:=fun k hI=>?_)
    ·exact Nat.zero_le _
    ·by_cases hk : (k : Int) < g.es[i].m
     ·
      have hk2 : k < g.es[i].m.toNat := by omega
      repeat' (first|((first|(refine zT ?_;intro K' hK')|(refine zG ?_ ?_<;>(try refine zH ?_)<;>intro hguard<;>(try exact zX)<;>try intro K' hK'))<;>((try simp +contextual only [go_sem, e2, Int.toNat_natCast, List.length_append, List.length_replicate, pRows_len, chunks, List.range, List.range.loop, pRows_snoc, List.append_assoc, ← List.replicate_succ']);(repeat' first|(with_reducible refine hK' _ _ ?_;clear hK' K')|(with_reducible exact pRows_k' (by assumption))|exact zY|with_reducible refine And.intro ?_ ?_|(with_reducible intro hpath;try exact zP)|(refine hK' _ _ ?_;clear hK' K')|fail);try refine zS ?_))|(refine zE ?_;refine hK _ _ ?_;clear hK K)|(refine zN ?_;try refine zS ?_)|refine zA ?_|(refine zB ?_;intro K hK)|(refine zC ?_ ?_<;>(try refine zH ?_)<;>intro hcond<;>try exact zX)|fail)
      refine ⟨k + 1,Weak.headN 2 40 [1, 3, 4, 5] zW (e1:=by first|rfl|(simp [mask,keepL, Nat.add_assoc, List.replicate_succ];done)|(simp [mask,keepL, Nat.add_assoc, List.replicate_succ]<;>simp_all<;>omega)) (e2:=by first|rfl|(simp [mask,keepL, Nat.add_assoc, List.replicate_succ];done)|(simp [mask,keepL, Nat.add_assoc, List.replicate_succ]<;>simp_all<;>omega)),?_,?_⟩
      ·exact hk2
      ·omega
     ·
      have ek : k = g.es[i].m.toNat := by omega
      refine zR (zc @e2 trivial) trivial trivial ?_
      refine ⟨i + 1,Weak.headN 2 40 [1, 3, 4] zW (e1:=by first|rfl|(simp [mask,keepL, endsL_take hlt, ek];done)|(simp [mask,keepL, endsL_take hlt, ek]<;>simp_all<;>omega)) (e2:=by first|rfl|(simp [mask,keepL, endsL_take hlt, ek];done)|(simp [mask,keepL, endsL_take hlt, ek]<;>simp_all<;>omega)),?_,?_⟩
      ·exact hlt
      ·omega
  ·have ei : i = g.es.length := by omega
   refine zR (zc @eRows_len (zc @Int.ofNat_lt trivial)) trivial trivial ?_
   simp [Rets, aret, Blk.cells, ty, Try.results27, ares, toT1, toT, borrow, borrow0, capCell, toTree0, ei]
end Go.Proofs.Ytgklecfiflhjmaa
