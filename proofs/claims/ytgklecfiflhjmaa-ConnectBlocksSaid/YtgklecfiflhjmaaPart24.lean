/- A part of the proof. -/
import Derived.Test.YtgklecfiflhjmaaPart23
import Derived.Test.YtgklecfiflhjmaaPart22
import Derived.Test.YtgklecfiflhjmaaLayerC
import Derived.Test.YtgklecfiflhjmaaPart20
import Derived.Test.YtgklecfiflhjmaaPart21
import Derived.Test.YtgklecfiflhjmaaPart19
import Derived.Test.YtgklecfiflhjmaaPart11
set_option linter.all false
set_option maxHeartbeats 4000000
set_option maxRecDepth 100000
namespace Go.Proofs.Ytgklecfiflhjmaa
open Go.Sp
structure FewF (g : G) : Prop where
 es : g.es.length ≤ 40
 sz : checkG g = 0 → g.n ≤ 6 ∧ (endsL g.es).length ≤ 9
theorem few_of {g : G} (h : smallB g 6 9 = true) : FewF g := by
 unfold smallB at h
 simp only [Bool.and_eq_true, Bool.or_eq_true, decide_eq_true_eq] at h
 exact ⟨h.1, fun hc => by rcases h.2 with h2 | h2; exact absurd hc h2; exact ⟨h2.1, by omega⟩⟩
theorem Same_refl (a : List (List Int)) (h : a.length < 2 ^ 40 ∧ ∀ l, l ∈ a → l.length < 2 ^ 40) : ACall Try.prog 19 [tlists a, tlists a] (tbool true) := by
 have := SameLists_ok a a h.1 h.1 h.2 h.2
 rwa [decide_eq_true rfl] at this
structure Rib (r : R) : Prop where
 ok : ROk r
 pos : 0 < (endsL r.es).length
 few : (endsL r.es).length ≤ 50
 fac : (facesR r).length ≤ 12
section
variable {r : R}
end
section
variable {r : R}
end
def comB (e f : Int) (c : List Int) : Bool := decide (e ∈ c) && decide (f ∈ c)
theorem common_ok (cs : List (List Int)) (e f : Int) (hl : cs.length < 2 ^ 40) (hc : ∀ c, c ∈ cs → c.length < 2 ^ 40) : ACall Try.prog 55 [tlists cs, tint e, tint f] (tbool (cs.any (comB e f))) := by
 refine ACall.of_body Try.func55 rfl (by kernel_rfl) ?_
 simp only [entry, Try.ntmps55, tint, tlists]
 refine zU ?_
 refine zR trivial trivial trivial ?_
 refine AWp.loopS (α:=Nat) 28 (fun i=>[(0,.c (.slice (llRows cs) .none)),(1,.c (.int .i64 e)),(2,.c (.int .i64 f)),(7,.c (.int .i64 (i : Int)))]) (fun i=>[]) (fun i=>i ≤ cs.length ∧ ∀ c, c ∈ cs.take i → comB e f c = false) (fun i=>cs.length - i) (0) (hk:=Weak.headL 0 28 [0, 1, 2, 7] zW) (h0:=?_) (round:=fun i hI=>?_)
 ·exact ⟨Nat.zero_le _, fun c hc => by simp at hc⟩
 ·obtain ⟨hi, hall⟩ := hI
  by_cases hlt : i < cs.length
  ·have hltI : (i : Int) < (cs.length : Int) := by omega
   have e0 := List.getElem?_eq_getElem hlt
   have e1 := llRows_get e0
   have hcm := List.getElem_mem hlt
   have hts := List.take_succ_eq_append_getElem hlt
   generalize cs[i] = c at *
   have h1 := Holds_ok c e (hc c hcm)
   have h2 := Holds_ok c f (hc c hcm)
   by_cases ha : e ∈ c
   ·rw [decide_eq_true ha] at h1
    by_cases hb : f ∈ c
    ·rw [decide_eq_true hb] at h2
     have hr : cs.any (comB e f) = true := List.any_eq_true.2 ⟨c, hcm, by unfold comB; rw [decide_eq_true ha, decide_eq_true hb]; rfl⟩
     rw [hr]
     repeat' (first|((first|(refine zT ?_;intro K' hK')|(refine zG ?_ ?_<;>(try refine zH ?_)<;>intro hguard<;>(try exact zX)<;>try intro K' hK'))<;>((try simp +contextual only [go_sem, hltI, e1, llRows_len, Int.toNat_natCast]);(repeat' first|(with_reducible refine hK' _ _ ?_;clear hK' K')|((with_reducible first|refine zK h1 ?_|refine zK h2 ?_);try simp +contextual only [go_sem, hltI, e1, llRows_len, Int.toNat_natCast])|exact zY|with_reducible refine And.intro ?_ ?_|(with_reducible intro hpath;try exact zP)|(refine hK' _ _ ?_;clear hK' K')|fail);try refine zS ?_))|(refine zE ?_;refine hK _ _ ?_;clear hK K)|(refine zN ?_;try refine zS ?_)|refine zA ?_|(refine zB ?_;intro K hK)|(refine zC ?_ ?_<;>(try refine zH ?_)<;>intro hcond<;>try exact zX)|fail)
     simp [Rets, aret, Blk.cells, ty, Try.results55, ares, toT1, toT, borrow, borrow0, capCell, toTree0, tbool]
    ·rw [decide_eq_false hb] at h2
     repeat' (first|((first|(refine zT ?_;intro K' hK')|(refine zG ?_ ?_<;>(try refine zH ?_)<;>intro hguard<;>(try exact zX)<;>try intro K' hK'))<;>((try simp +contextual only [go_sem, hltI, e1, llRows_len, Int.toNat_natCast]);(repeat' first|(with_reducible refine hK' _ _ ?_;clear hK' K')|((with_reducible first|refine zK h1 ?_|refine zK h2 ?_);try simp +contextual only [go_sem, hltI, e1, llRows_len, Int.toNat_natCast])|exact zY|with_reducible refine And.intro ?_ ?_|(with_reducible intro hpath;try exact zP)|(refine hK' _ _ ?_;clear hK' K')|fail);try refine zS ?_))|(refine zE ?_;refine hK _ _ ?_;clear hK K)|(refine zN ?_;try refine zS ?_)|refine zA ?_|(refine zB ?_;intro K hK)|(refine zC ?_ ?_<;>(try refine zH ?_)<;>intro hcond<;>try exact zX)|fail)
     refine ⟨i + 1,Weak.headN 0 28 [0, 1, 2, 7] zW,?_,?_⟩
     ·refine ⟨hlt, fun c' hc' => ?_⟩
      rw [hts] at hc'
      rcases List.mem_append.1 hc' with q | q
      ·exact hall c' q
      ·rw [List.mem_singleton.1 q]; unfold comB; rw [decide_eq_false hb, Bool.and_false]
     ·omega
   ·rw [decide_eq_false ha] at h1
    repeat' (first|((first|(refine zT ?_;intro K' hK')|(refine zG ?_ ?_<;>(try refine zH ?_)<;>intro hguard<;>(try exact zX)<;>try intro K' hK'))<;>((try simp +contextual only [go_sem, hltI, e1, llRows_len, Int.toNat_natCast]);(repeat' first|(with_reducible refine hK' _ _ ?_;clear hK' K')|((with_reducible first|refine zK h1 ?_|refine zK h2 ?_);try simp +contextual only [go_sem, hltI, e1, llRows_len, Int.toNat_natCast])|exact zY|with_reducible refine And.intro ?_ ?_|(with_reducible intro hpath;try exact zP)|(refine hK' _ _ ?_;clear hK' K')|fail);try refine zS ?_))|(refine zE ?_;refine hK _ _ ?_;clear hK K)|(refine zN ?_;try refine zS ?_)|refine zA ?_|(refine zB ?_;intro K hK)|(refine zC ?_ ?_<;>(try refine zH ?_)<;>intro hcond<;>try exact zX)|fail)
    refine ⟨i + 1,Weak.headN 0 28 [0, 1, 2, 7] zW,?_,?_⟩
    ·refine ⟨hlt, fun c' hc' => ?_⟩
     rw [hts] at hc'
     rcases List.mem_append.1 hc' with q | q
     ·exact hall c' q
     ·rw [List.mem_singleton.1 q]; unfold comB; rw [decide_eq_false ha, Bool.false_and]
    ·omega
  ·have hnl : ¬ (i : Int) < (cs.length : Int) := by omega
   have ei : i = cs.length := by omega
   have hr : cs.any (comB e f) = false := List.any_eq_false.2 fun c hc => by rw [hall c (by rw [ei, List.take_length]; exact hc)]; simp
   rw [hr]
   refine zR (zc @hnl (zc @llRows_len trivial)) trivial trivial ?_
   simp [Rets, aret, Blk.cells, ty, Try.results55, ares, toT1, toT, borrow, borrow0, capCell, toTree0, tbool]
end Go.Proofs.Ytgklecfiflhjmaa
