/- A part of the proof. -/
import Derived.Test.YtfkegnhpihoncaaGreatPart14
import Derived.Test.YtfkegnhpihoncaaGreatLayerC
set_option linter.all false
set_option maxHeartbeats 4000000
set_option maxRecDepth 100000
namespace Go.Proofs.YtfkegnhpihoncaaGreat
open Go.Sp
def b2i (p : Prop) [Decidable p] : Int := if p then 1 else 0
def degL (v : Int) : List (Int × Int) → Int
 | [] => 0
 | p :: l => b2i (p.1 = v) + b2i (p.2 = v) + degL v l
theorem degL_append (v : Int) (a b : List (Int × Int)) : degL v (a ++ b) = degL v a + degL v b := by
 induction a with
 | nil => simp [degL]
 | cons x xs ih => simp only [List.cons_append, degL, ih]; omega
theorem degL_snoc (v : Int) (l : List (Int × Int)) (p : Int × Int) : degL v (l ++ [p]) = degL v l + b2i (p.1 = v) + b2i (p.2 = v) := by
 rw [degL_append]; simp only [degL]; omega
theorem sortN_any (L : List (Int × Int)) (hl : L.length ≤ 2000) : ∃ zs, NOrd L zs ∧ ACallH Tryz.prog 100 [.ro [.slice (pRows L)], .box (iC (ordK L.length L.length))] [.c (.ref 1 1 0 L.length L.length), .c (.fn 101 [.tree (.rptr [.slice (pRows L)])])]
  [.ro [.slice (pRows L)], .box (iC (zs.map fun x : Nat => (x : Int)))] (.tup []) := by
 by_cases h0 : L.length = 0
 ·have hL : L = [] := List.length_eq_zero_iff.1 h0
  subst hL
  exact ⟨[], ⟨List.Perm.refl _, List.Pairwise.nil⟩, SortN_none rfl⟩
 ·have hp : 0 < L.length := by omega
  obtain ⟨zs, hz, he⟩ := sortN_ord L hp
  refine ⟨zs, hz, ?_⟩
  have hS := SortN_ok L (by omega) hp (List.finRange L.length) (by simp; omega) (H := [.ro [.slice (pRows L)], .box (iC (ordK L.length L.length))]) (id := 1) (cap := L.length) (by rw [ordK_all]; rfl)
  rw [he, List.length_finRange] at hS
  exact hS
theorem numbers_ok (L : List (Int × Int)) (hl : L.length ≤ 2000) : ACall Tryz.prog 58 [tpairs L] (tints (numI L)) := by
 obtain ⟨zs, hz, hS⟩ := sortN_any L hl
 have hzl := hz.len
 refine ACall.of_body Tryz.func58 rfl (by kernel_rfl) ?_
 simp only [entry, Tryz.ntmps58, tpairs]
 refine zU ?_
 refine zR (zc @made_ints (zc @pRows_len trivial)) trivial trivial ?_
 rw [ordK_zero]
 refine AWp.loopS (α:=Nat) 40 (fun k=>[(1,.c (.ptr 0 0)),(3,.c (.ref 1 1 0 L.length L.length)),(12,.c (.int .i64 (L.length : Int))),(13,.c (.int .i64 (k : Int)))]) (fun k=>[.box [.slice (pRows L) .none], .box (iC (ordK L.length k))]) (fun k=>k ≤ L.length) (fun k=>L.length - k) (0) (hk:=Weak.headL 2 40 [1, 3, 12, 13] (zV @iC_in)) (h0:=?_) (round:=fun k hI=>?_)
 ·exact Nat.zero_le _
 ·have hk : k ≤ L.length := hI
  clear hI
  by_cases hlt : k < L.length
  ·have hltI : (k : Int) < L.length := by omega
   have hst := ordK_step hlt
   have hol : (ordK L.length k).length = L.length := tabI_len _ _
   generalize hO2 : ordK L.length (k + 1) = O2 at *
   generalize ordK L.length k = O1 at *
   refine zR (zc @hltI (zc @iC_set (zc @hst (zc @iC_len (zc @hol trivial))))) trivial trivial ?_
   refine ⟨k + 1,Weak.headF 2 40 [1, 3, 12, 13] (zc @hO2 trivial) (zV @iC_in),?_,?_⟩
   ·exact hlt
   ·omega
  ·have ek : k = L.length := by omega
   subst ek
   have hnl : ¬ ((L.length : Int) < L.length) := by omega
   repeat' ((fail_if_success (with_reducible refine AWp.atSeq 7 ?_));(fail_if_success (with_reducible refine AWp.atLast 7 ?_));first|((first|(refine zT ?_;intro K' hK')|(refine zG ?_ ?_<;>(try refine zH ?_)<;>intro hguard<;>(try exact zX)<;>try intro K' hK'))<;>((try simp +contextual only [go_sem, hnl]);(repeat' first|(with_reducible refine hK' _ _ ?_;clear hK' K')|exact zY|with_reducible refine And.intro ?_ ?_|(with_reducible intro hpath;try exact zP)|(refine hK' _ _ ?_;clear hK' K')|fail);try refine zS ?_))|(refine zE ?_;refine hK _ _ ?_;clear hK K)|(refine zN ?_;try refine zS ?_)|refine zA ?_|(refine zB ?_;intro K hK)|(refine zC ?_ ?_<;>(try refine zH ?_)<;>intro hcond<;>try exact zX)|fail)
   refine AWp.freezeP 1 0 rfl rfl rfl ?_
   simp only [List.set_cons_succ, List.set_cons_zero]
   simp only [List.reverse_cons, List.reverse_nil, List.nil_append]
   repeat' (first|((first|(refine zT ?_;intro K' hK')|(refine zG ?_ ?_<;>(try refine zH ?_)<;>intro hguard<;>(try exact zX)<;>try intro K' hK'))<;>((try simp +contextual only [go_sem, made_ints, pRows_len, Int.toNat_natCast]);(repeat' first|(with_reducible refine hK' _ _ ?_;clear hK' K')|((with_reducible first|refine ⟨_,_,hS,?_⟩|refine ⟨_,hS,?_⟩);try simp +contextual only [go_sem, made_ints, pRows_len, Int.toNat_natCast])|exact zY|with_reducible refine And.intro ?_ ?_|(with_reducible intro hpath;try exact zP)|(refine hK' _ _ ?_;clear hK' K')|fail);try refine zS ?_))|(refine zE ?_;refine hK _ _ ?_;clear hK K)|(refine zN ?_;try refine zS ?_)|refine zA ?_|(refine zB ?_;intro K hK)|(refine zC ?_ ?_<;>(try refine zH ?_)<;>intro hcond<;>try exact zX)|fail)
   rw [numK_zero L zs]
   have hlz : (zs.map fun x : Nat => (x : Int)).length = L.length := by rw [List.length_map, hzl]
   refine AWp.loopS (α:=Nat) 40 (fun k=>[(5,.c (.ref 2 1 0 L.length L.length)),(27,.c (.ref 1 1 0 L.length L.length)),(28,.c (.int .i64 (L.length : Int))),(29,.c (.int .i64 (k : Int)))]) (fun k=>[.ro [.slice (pRows L)], .box (iC (zs.map fun x : Nat => (x : Int))), .box (iC (tabI L.length (numK L zs k)))]) (fun k=>k ≤ L.length) (fun k=>L.length - k) (0) (hk:=Weak.headL 3 40 [5, 27, 28, 29] (zV @iC_in)) (h0:=?_) (round:=fun k hI=>?_)
   ·exact Nat.zero_le _
   ·have hk : k ≤ L.length := hI
    clear hI
    by_cases hlt : k < L.length
    ·have hltI : (k : Int) < L.length := by omega
     have e0 : zs[k]? = some zs[k] := List.getElem?_eq_getElem (by omega)
     have hst := numK_step hz e0
     have hel := hz.lt e0
     have e1 : (zs.map fun x : Nat => (x : Int))[k]? = some ((zs[k] : Nat) : Int) := by rw [List.getElem?_map, e0]; rfl
     have g1 := iC_get e1
     have d1 := iC_drop e1
     have hol := tabI_len L.length (numK L zs k)
     generalize zs[k] = e at *
     have helI : (e : Int) < L.length := by omega
     generalize zs.map (fun x : Nat => (x : Int)) = Z at *
     generalize hO2 : tabI L.length (numK L zs (k + 1)) = O2 at *
     generalize tabI L.length (numK L zs k) = O1 at *
     refine zR (zc @hltI (zc @helI (zc @g1 (zc @d1 (zc @iC_set (zc @hst (zc @iC_len (zc @hol (zc @hlz trivial))))))))) trivial trivial ?_
     refine ⟨k + 1,Weak.headF 3 40 [5, 27, 28, 29] (zc @hO2 trivial) (zV @iC_in),?_,?_⟩
     ·exact hlt
     ·omega
    ·have ek : k = L.length := by omega
     subst ek
     have hnl : ¬ ((L.length : Int) < L.length) := by omega
     have hall := numK_all hz
     rw [hzl] at hall
     have hol := tabI_len L.length (numK L zs L.length)
     rw [hall] at hol ⊢
     generalize numI L = B at *
     repeat' ((fail_if_success (with_reducible refine AWp.atSeq 14 ?_));(fail_if_success (with_reducible refine AWp.atLast 14 ?_));first|((first|(refine zT ?_;intro K' hK')|(refine zG ?_ ?_<;>(try refine zH ?_)<;>intro hguard<;>(try exact zX)<;>try intro K' hK'))<;>((try simp +contextual only [go_sem, hnl]);(repeat' first|(with_reducible refine hK' _ _ ?_;clear hK' K')|exact zY|with_reducible refine And.intro ?_ ?_|(with_reducible intro hpath;try exact zP)|(refine hK' _ _ ?_;clear hK' K')|fail);try refine zS ?_))|(refine zE ?_;refine hK _ _ ?_;clear hK K)|(refine zN ?_;try refine zS ?_)|refine zA ?_|(refine zB ?_;intro K hK)|(refine zC ?_ ?_<;>(try refine zH ?_)<;>intro hcond<;>try exact zX)|fail)
     refine AWp.freezeR 5 2 1 L.length L.length rfl rfl (iC_trees _) (iRows B) (by rw [iRows_len, hol]) (Nat.le_refl _) (fun r hr => iRows_k' hr) (iRows_pre _) ?_
     simp only [List.set_cons_succ, List.set_cons_zero]
     refine zR trivial trivial trivial ?_
     simp [Rets, aret, Blk.cells, ty, Tryz.results58, ares, toT1, toT, borrow, borrow0, capCell, toTree0, tints]
end Go.Proofs.YtfkegnhpihoncaaGreat
