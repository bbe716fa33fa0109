/- A part of the proof. -/
import Derived.Test.YtfkegnhpihoncaaGreatPart05
import Derived.Test.YtfkegnhpihoncaaGreatLayerC
set_option linter.all false
set_option maxHeartbeats 4000000
set_option maxRecDepth 100000
namespace Go.Proofs.YtfkegnhpihoncaaGreat
open Go.Sp
def itemsP (l : List (Int × Int)) : List (List TVal) := l.zipIdx.map fun p => [tint (p.2 : Int), tpair p.1.1 p.1.2]
theorem itemsP_len (l : List (Int × Int)) : (itemsP l).length = l.length := by simp [itemsP]
theorem itemsP_get {l : List (Int × Int)} {i : Nat} {p : Int × Int} (h : l[i]? = some p) : (itemsP l)[i]? = some [tint (i : Int), tpair p.1 p.2] := by
 simp [itemsP, h]
theorem itemsP_inv {l : List (Int × Int)} {i : Nat} {ts : List TVal} (h : (itemsP l)[i]? = some ts) : ∃ p, l[i]? = some p ∧ ts = [tint (i : Int), tpair p.1 p.2] := by
 simp only [itemsP, List.getElem?_map, List.getElem?_zipIdx] at h
 cases hl : l[i]? with
 | none => simp [hl] at h
 | some p => simp [hl] at h; exact ⟨p, rfl, h.symm⟩
theorem endsL_get {es : List E} {i k : Nat} (h : i < es.length) (hk : k < (es[i]'h).m.toNat) : (endsL es)[(endsL (es.take i)).length + k]? = some (es[i].a, es[i].b) := by
 have e : endsL es = endsL (es.take i) ++ (List.replicate es[i].m.toNat (es[i].a, es[i].b) ++ endsL (es.drop (i + 1))) := by
  rw [← List.append_assoc, ← endsL_take h, ← endsL_append, List.take_append_drop]
 rw [e, List.getElem?_append_right (by omega), Nat.add_sub_cancel_left, List.getElem?_append_left (by rw [List.length_replicate]; exact hk)]
 rw [List.getElem?_replicate, if_pos hk]
theorem singles1_ok (g : G) (hs : (endsL g.es).length < 2 ^ 40) (hl : g.es.length < 2 ^ 40) (hm : ∀ e, e ∈ g.es → e.m < 2 ^ 40) : AIter Tryz.prog 172 [.rptr [.int .i64 g.n, .slice (eRows g.es)]] (itemsP (endsL g.es)) := by
 refine AIter.of_body Tryz.func172 rfl (by kernel_rfl) rfl (fun l J Jx hJ hJx hY => ?_)
 simp only [entry, Tryz.ntmps172, ofT, ofT1, ofTree, List.map_cons, List.map_nil, List.length_cons, List.length_nil, Nat.reduceAdd, Nat.reduceSub, List.replicate_succ, List.replicate_zero, List.cons_append, List.nil_append]
 refine zR (zc @eRows_len trivial) trivial trivial ?_
 refine AWp.loopS (α:=Nat) 30 (fun i=>[(0,.c (.yld l)),(1,.c (.rptr [.int .i64 g.n, .slice (eRows g.es)])),(3,.c (.int .i64 ((endsL (g.es.take i)).length : Int))),(7,.c (.slice (eRows g.es) .none)),(8,.c (.int .i64 (g.es.length : Int))),(9,.c (.int .i64 (i : Int)))]) (fun i=>[.ghost (J (endsL (g.es.take i)).length)]) (fun i=>i ≤ g.es.length) (fun i=>g.es.length - i) (0) (hk:=Weak.headL 1 30 [0, 1, 3, 7, 8, 9] zW) (h0:=?_) (round:=fun i hI=>?_)
 ·exact Nat.zero_le _
 ·by_cases hlt : i < g.es.length
  ·have e1 : g.es[i]? = some g.es[i] := List.getElem?_eq_getElem hlt
   have e2 := eRows_get e1
   have hle := endsL_take_le g.es (i + 1)
   rw [endsL_take hlt, List.length_append, List.length_replicate] at hle
   have hmi := hm g.es[i] (List.getElem_mem hlt)
   repeat' (first|((first|(refine zT ?_;intro K' hK')|(refine zG ?_ ?_<;>(try refine zH ?_)<;>intro hguard<;>(try exact zX)<;>try intro K' hK'))<;>((try simp +contextual only [go_sem, eRows_len, Int.ofNat_lt, e2, Int.toNat_natCast]);(repeat' first|(with_reducible refine hK' _ _ ?_;clear hK' K')|exact zY|with_reducible refine And.intro ?_ ?_|(with_reducible intro hpath;try exact zP)|(refine hK' _ _ ?_;clear hK' K')|fail);try refine zS ?_))|(refine zE ?_;refine hK _ _ ?_;clear hK K)|(refine zN ?_;try refine zS ?_)|refine zA ?_|(refine zB ?_;intro K hK)|(refine zC ?_ ?_<;>(try refine zH ?_)<;>intro hcond<;>try exact zX)|fail)
   ·
    refine AWp.loopS (α:=Nat) 30 (fun k=>[(0,.c (.yld l)),(1,.c (.rptr [.int .i64 g.n, .slice (eRows g.es)])),(3,.c (.int .i64 (((endsL (g.es.take i)).length + k : Nat) : Int))),(5,.c (.ptr 1 0)),(7,.c (.slice (eRows g.es) .none)),(8,.c (.int .i64 (g.es.length : Int))),(9,.c (.int .i64 (i : Int))),(14,.c (.int .i64 g.es[i].m)),(15,.c (.int .i64 (k : Int)))]) (fun k=>[.ghost (J ((endsL (g.es.take i)).length + k)), .box [.int .i64 g.es[i].a, .int .i64 g.es[i].b, .int .i64 g.es[i].m]]) (fun k=>k ≤ g.es[i].m.toNat) (fun k=>g.es[i].m.toNat - k) (0) (hk:=Weak.headL 2 30 [0, 1, 3, 5, 7, 8, 9, 14, 15] zW) (h0:=?_) (round:=fun k hI=>?_)
    ·exact Nat.zero_le _
    ·by_cases hk : (k : Int) < g.es[i].m
     ·
      have hk2 : k < g.es[i].m.toNat := by omega
      have hget := itemsP_get (endsL_get hlt hk2)
      repeat' (first|((with_reducible refine AWp.seq (AWp.of_reg (id:=6) (AReg.pre 7 (fun K hK=>?_))));simp only [List.take_succ_cons,List.take_zero])|((with_reducible refine AWp.of_reg (id:=6) (AReg.pre 7 (fun K hK=>?_)));simp only [List.take_succ_cons,List.take_zero])|((first|(refine zT ?_;intro K' hK')|(refine zG ?_ ?_<;>(try refine zH ?_)<;>intro hguard<;>(try exact zX)<;>try intro K' hK'))<;>((try simp +contextual only [go_sem]);(repeat' first|(with_reducible refine hK' _ _ ?_;clear hK' K')|exact zY|with_reducible refine And.intro ?_ ?_|(with_reducible intro hpath;try exact zP)|(refine hK' _ _ ?_;clear hK' K')|fail);try refine zS ?_))|(refine zE ?_;refine hK _ _ ?_;clear hK K)|(refine zN ?_;try refine zS ?_)|refine zA ?_|(refine zB ?_;intro K hK)|(refine zC ?_ ?_<;>(try refine zH ?_)<;>intro hcond<;>try exact zX)|fail)
      simp only [List.drop_succ_cons, List.drop_zero]
      refine AReg.yield rfl rfl rfl (by rfl) (by with_unfolding_all rfl) (by simp [okBlk]) (hY _ _ hget) (hJ _) hJx ?_ ?_ <;> (try refine zS ?_) <;> refine AReg.rest (fun K hK => ?_)
      ·
       repeat' (first|((first|(refine zT ?_;intro K' hK')|(refine zG ?_ ?_<;>(try refine zH ?_)<;>intro hguard<;>(try exact zX)<;>try intro K' hK'))<;>((try simp +contextual only [go_sem]);(repeat' first|(with_reducible refine hK' _ _ ?_;clear hK' K')|exact zY|with_reducible refine And.intro ?_ ?_|(with_reducible intro hpath;try exact zP)|(refine hK' _ _ ?_;clear hK' K')|fail);try refine zS ?_))|(refine zE ?_;refine hK _ _ ?_;clear hK K)|(refine zN ?_;try refine zS ?_)|refine zA ?_|(refine zB ?_;intro K hK)|(refine zC ?_ ?_<;>(try refine zH ?_)<;>intro hcond<;>try exact zX)|fail)
       refine ⟨k + 1,Weak.headF 2 30 [0, 1, 3, 5, 7, 8, 9, 14, 15] (zc @Nat.add_assoc trivial) zW,?_,?_⟩
       ·exact hk2
       ·omega
      ·
       repeat' (first|((first|(refine zT ?_;intro K' hK')|(refine zG ?_ ?_<;>(try refine zH ?_)<;>intro hguard<;>(try exact zX)<;>try intro K' hK'))<;>((try simp +contextual only [go_sem]);(repeat' first|(with_reducible refine hK' _ _ ?_;clear hK' K')|exact zY|with_reducible refine And.intro ?_ ?_|(with_reducible intro hpath;try exact zP)|(refine hK' _ _ ?_;clear hK' K')|fail);try refine zS ?_))|(refine zE ?_;refine hK _ _ ?_;clear hK K)|(refine zN ?_;try refine zS ?_)|refine zA ?_|(refine zB ?_;intro K hK)|(refine zC ?_ ?_<;>(try refine zH ?_)<;>intro hcond<;>try exact zX)|fail)
       exact ⟨True.intro, _, .inr rfl⟩
     ·
      have ek : k = g.es[i].m.toNat := by omega
      refine zR (zc @e2 trivial) trivial trivial ?_
      refine ⟨i + 1,Weak.headN 1 30 [0, 1, 3, 7, 8, 9] zW (e1:=by first|rfl|(simp [mask,keepL, endsL_take hlt, ek];done)|(simp [mask,keepL, endsL_take hlt, ek]<;>simp_all<;>omega)) (e2:=by first|rfl|(simp [mask,keepL, endsL_take hlt, ek];done)|(simp [mask,keepL, endsL_take hlt, ek]<;>simp_all<;>omega)),?_,?_⟩
      ·exact hlt
      ·omega
  ·have ei : i = g.es.length := by omega
   refine zR (zc @eRows_len (zc @Int.ofNat_lt trivial)) trivial trivial ?_
   exact ⟨True.intro, _, .inl (by rw [itemsP_len, ei, List.take_length])⟩
theorem singles_ok (g : G) : ACall Tryz.prog 144 [tG g] (.t (.fn 172 [.rptr [.int .i64 g.n, .slice (eRows g.es)]])) := by
 refine ACall.of_body Tryz.func144 rfl (by kernel_rfl) ?_
 simp only [entry, Tryz.ntmps144, tG]
 refine zU ?_
 refine zR trivial trivial trivial ?_
 simp [Rets, aret, Blk.cells, ty, Tryz.results144, ares, toT1, toT, borrow, borrow0, capCell, toTree0]
end Go.Proofs.YtfkegnhpihoncaaGreat
