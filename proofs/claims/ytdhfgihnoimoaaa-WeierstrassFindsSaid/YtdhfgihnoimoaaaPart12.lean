/- A part of the proof. -/
import Derived.Test.YtdhfgihnoimoaaaPart11
import Derived.Test.YtdhfgihnoimoaaaLayerC
import Derived.Test.YtdhfgihnoimoaaaPart05
import Derived.Test.YtdhfgihnoimoaaaPart07
import Derived.Test.YtdhfgihnoimoaaaPart10
import Derived.Test.YtdhfgihnoimoaaaPart02
set_option linter.all false
set_option maxHeartbeats 4000000
set_option maxRecDepth 100000
namespace Go.Proofs.Ytdhfgihnoimoaaa
open Go.Sp
def bC (R : List Bool) : List ACell := R.map ACell.bool
def bRows (R : List Bool) : List (List Tree) := R.map fun b => [Tree.bool b]
def tbools (R : List Bool) : TVal := .t (.slice (bRows R))
attribute [go_sem] tbools
theorem bC_len (R : List Bool) : (bC R).length = R.length := by simp [bC]
theorem bRows_len (R : List Bool) : (bRows R).length = R.length := by simp [bRows]
theorem bC_get {R : List Bool} {i : Nat} {b : Bool} (h : R[i]? = some b) : (bC R)[i]? = some (.bool b) := by simp [bC, h]
theorem bRows_get {R : List Bool} {i : Nat} {b : Bool} (h : R[i]? = some b) : (bRows R)[i]? = some [.bool b] := by simp [bRows, h]
theorem bC_set (R : List Bool) (i : Nat) (b : Bool) : (bC R).set i (.bool b) = bC (R.set i b) := by simp [bC, List.map_set]
theorem bC_drop {R : List Bool} {i : Nat} {b : Bool} (h : R[i]? = some b) : (bC R).drop i = .bool b :: (bC R).drop (i + 1) := by
 have hl := (List.getElem?_eq_some_iff.1 h)
 rw [List.drop_eq_getElem_cons (by rw [bC_len]; exact hl.1)]
 obtain ⟨h1, rfl⟩ := hl
 simp [bC]
theorem made_bools (n : Nat) : madeA [ACell.bool false] n = bC (List.replicate n false) := by
 simp [madeA, bC]
def adjB (es : List E) (a b : Nat) : Bool := decide (0 < cntL es (min (a : Int) b) (max (a : Int) b))
def rStep (es : List E) (a : Nat) (R : List Bool) (b : Nat) : List Bool := if R.getD a false && adjB es a b then R.set b true else R
def rRow (es : List E) (n a : Nat) (R : List Bool) : List Bool := (List.range n).foldl (rStep es a) R
def rRound (es : List E) (n : Nat) (R : List Bool) : List Bool := (List.range n).foldl (fun R a => rRow es n a R) R
def reachN (es : List E) (n v k : Nat) : List Bool := (List.range k).foldl (fun R _ => rRound es n R) ((List.replicate n false).set v true)
def reachL (es : List E) (n v : Nat) : List Bool := reachN es n v n
theorem foldl_range_succ {α : Type} (f : α → Nat → α) (z : α) (k : Nat) : (List.range (k + 1)).foldl f z = f ((List.range k).foldl f z) k := by rw [List.range_succ, List.foldl_append]; rfl
theorem foldl_len {f : List Bool → Nat → List Bool} (h : ∀ R i, (f R i).length = R.length) (l : List Nat) (R : List Bool) : (l.foldl f R).length = R.length := by
 induction l generalizing R with
 | nil => rfl
 | cons x xs ih => rw [List.foldl_cons, ih, h]
theorem rStep_len (es : List E) (a : Nat) (R : List Bool) (b : Nat) : (rStep es a R b).length = R.length := by unfold rStep; split <;> simp
theorem rRow_len (es : List E) (n a : Nat) (R : List Bool) : (rRow es n a R).length = R.length := foldl_len (rStep_len es a) _ _
theorem rRound_len (es : List E) (n : Nat) (R : List Bool) : (rRound es n R).length = R.length := foldl_len (fun R a => rRow_len es n a R) _ _
theorem reachN_len (es : List E) (n v k : Nat) : (reachN es n v k).length = n := by
 unfold reachN; rw [foldl_len (fun R _ => rRound_len es n R)]; simp
theorem rStep_run {es : List E} {a : Nat} {R : List Bool} {b : Nat} {x : Bool} (h : R[a]? = some x) : rStep es a R b = if x = true ∧ 0 < cntL es (min (a : Int) b) (max (a : Int) b) then R.set b true else R := by
 unfold rStep adjB
 rw [List.getD_eq_getElem?_getD, h, Option.getD_some]
 cases x <;> simp
theorem bool_get {R : List Bool} {n a : Nat} (h : R.length = n) (ha : a < n) : ∃ x, R[a]? = some x := ⟨_, List.getElem?_eq_getElem (by omega)⟩
theorem bC_ref {R : List Bool} {n : Nat} (h : R.length = n) {H : List Blk} {id : Nat} (hid : H[id]? = some (.box (bC R))) : borrow H (.ref id 1 0 n n) = some (.slice (bRows R)) := by
 have e : borrow H (.ref id 1 0 n n) = borrow0 H (.ref id 1 0 n n) := rfl
 have hf := refRows_flat (rows := bRows R) (k := 1) (cap := n) (fun r hr => by obtain ⟨b, _, rfl⟩ := List.mem_map.1 hr; rfl) (fun r hr => by obtain ⟨b, _, rfl⟩ := List.mem_map.1 hr; rfl) (by rw [bRows_len]; omega)
 have hfl : flatRows (bRows R) = bC R := by
  simp only [flatRows, bRows, bC]
  clear e hf hid h
  induction R with
  | nil => rfl
  | cons x xs ih => simp only [List.map_cons, List.flatten_cons, List.map_append, ih]; rfl
 rw [hfl, bRows_len, h] at hf
 unfold refRows at hf
 rw [e]
 simp only [borrow0, hid, Blk.cells, Option.bind_some]
 split at hf
 ·rename_i hc
  rw [if_pos hc]
  cases hm : (((bC R).drop 0).take (n * 1)).mapM toTree0 with
  | none => rw [hm] at hf; simp at hf
  | some ts =>
   rw [hm] at hf
   simp only [Option.bind_some] at hf
   split at hf
   ·simp at hf; simp [hf]
   ·simp at hf
 ·simp at hf
theorem Reached_ok (g : G) (n v : Nat) (hc : checkG g = 0) (hn : g.n = n) (hv : v < n) (hl : g.es.length < 2 ^ 30) : ACall Try.prog 103 [tG g, tint v] (tbools (reachL g.es n v)) := by
 have hn12 := (checkG_zero.1 hc).1
 have hbe : ∀ a b : Nat, ACall Try.prog 114 [tG g, tint a, tint b] (tint (cntL g.es (min (a : Int) b) (max (a : Int) b))) := fun a b => BetweenR_ok g a b (by omega)
 obtain ⟨gn, es⟩ := g
 simp only at hn hl hn12 hbe ⊢
 subst hn
 refine ACall.of_body Try.func103 rfl (by kernel_rfl) ?_
 simp only [entry, Try.ntmps103, tG, tint]
 refine zU ?_
 repeat' (first|((first|(refine zT ?_;intro K' hK')|(refine zG ?_ ?_<;>(try refine zH ?_)<;>intro hguard<;>(try exact zX)<;>try intro K' hK'))<;>((try simp +contextual only [go_sem, made_bools, Int.toNat_natCast, Nat.mul_one, bC_set, bC_len, List.length_replicate]);(repeat' first|(with_reducible refine hK' _ _ ?_;clear hK' K')|exact zY|with_reducible refine And.intro ?_ ?_|(with_reducible intro hpath;try exact zP)|(refine hK' _ _ ?_;clear hK' K')|fail);try refine zS ?_))|(refine zE ?_;refine hK _ _ ?_;clear hK K)|(refine zN ?_;try refine zS ?_)|refine zA ?_|(refine zB ?_;intro K hK)|(refine zC ?_ ?_<;>(try refine zH ?_)<;>intro hcond<;>try exact zX)|fail)
 refine AWp.loopS (α:=Nat) 48 (fun k=>[(1,.c (.int .i64 (v : Int))),(2,.c (.ptr 0 0)),(5,.c (.ref 1 1 0 n n)),(6,.c (.int .i64 (k : Int)))]) (fun k=>[.box [.int .i64 (n : Int), .slice (eRows es) .none], .box (bC (reachN es n v k))]) (fun k=>k ≤ n) (fun k=>n - k) (0) (hk:=Weak.headL 2 48 [1, 2, 5, 6] zW) (h0:=?_) (round:=fun k hI=>?_)
 ·exact Nat.zero_le _
 ·have hk : k ≤ n := hI
  clear hI
  by_cases hlt : k < n
  ·have hltI : (k : Int) < n := by omega
   have hN : reachN es n v (k + 1) = rRound es n (reachN es n v k) := foldl_range_succ _ _ _
   have hlen := reachN_len es n v k
   generalize reachN es n v k = R at *
   refine zR (zc @hltI trivial) trivial trivial ?_
   refine AWp.loopS (α:=Nat) 48 (fun a=>[(1,.c (.int .i64 (v : Int))),(2,.c (.ptr 0 0)),(5,.c (.ref 1 1 0 n n)),(6,.c (.int .i64 (k : Int))),(7,.c (.int .i64 (a : Int)))]) (fun a=>[.box [.int .i64 (n : Int), .slice (eRows es) .none], .box (bC ((List.range a).foldl (fun R a => rRow es n a R) R))]) (fun a=>a ≤ n) (fun a=>n - a) (0) (hk:=Weak.headL 2 48 [1, 2, 5, 6, 7] zW) (h0:=?_) (round:=fun a hI=>?_)
   ·exact Nat.zero_le _
   ·have ha : a ≤ n := hI
    clear hI
    by_cases hlta : a < n
    ·have hltaI : (a : Int) < n := by omega
     have hA : (List.range (a + 1)).foldl (fun R a => rRow es n a R) R = rRow es n a ((List.range a).foldl (fun R a => rRow es n a R) R) := foldl_range_succ _ _ _
     have hlen2 : ((List.range a).foldl (fun R a => rRow es n a R) R).length = n := by rw [foldl_len (fun R a => rRow_len es n a R), hlen]
     generalize (List.range a).foldl (fun R a => rRow es n a R) R = S at *
     refine zR (zc @hltaI trivial) trivial trivial ?_
     refine AWp.loopS (α:=Nat) 48 (fun b=>[(1,.c (.int .i64 (v : Int))),(2,.c (.ptr 0 0)),(5,.c (.ref 1 1 0 n n)),(6,.c (.int .i64 (k : Int))),(7,.c (.int .i64 (a : Int))),(8,.c (.int .i64 (b : Int)))]) (fun b=>[.box [.int .i64 (n : Int), .slice (eRows es) .none], .box (bC ((List.range b).foldl (rStep es a) S))]) (fun b=>b ≤ n) (fun b=>n - b) (0) (hk:=Weak.headL 2 48 [1, 2, 5, 6, 7, 8] zW) (h0:=?_) (round:=fun b hI=>?_)
     ·exact Nat.zero_le _
     ·have hb : b ≤ n := hI
      clear hI
      by_cases hltb : b < n
      ·have hltbI : (b : Int) < n := by omega
       have hB : (List.range (b + 1)).foldl (rStep es a) S = rStep es a ((List.range b).foldl (rStep es a) S) b := foldl_range_succ _ _ _
       have hlen3 : ((List.range b).foldl (rStep es a) S).length = n := by rw [foldl_len (rStep_len es a), hlen2]
       generalize (List.range b).foldl (rStep es a) S = T at *
       obtain ⟨x, hx⟩ := bool_get hlen3 hlta
       have hd := bC_drop hx
       have hst := rStep_run (es := es) (b := b) hx
       have hbb := hbe a b
       have hg := bC_get hx
       generalize cntL es (min (a : Int) b) (max (a : Int) b) = c at *
       cases x with
       | true =>
        by_cases hcp : 0 < c
        ·rw [if_pos ⟨rfl, hcp⟩] at hst
         rw [hst] at hB
         refine zR (zc @hltbI (zc @hd (zc @hg (zc @hcp (zc @bC_len (zc @hlen3 (zc @bC_set trivial))))))) (zc hbb trivial) trivial ?_
         refine ⟨b + 1,Weak.headF 2 48 [1, 2, 5, 6, 7, 8] (zc @hB trivial) zW,?_,?_⟩
         ·exact hltb
         ·omega
        ·rw [if_neg (by simp [hcp])] at hst
         rw [hst] at hB
         refine zR (zc @hltbI (zc @hd (zc @hg (zc @hcp (zc @bC_len (zc @hlen3 trivial)))))) (zc hbb trivial) trivial ?_
         refine ⟨b + 1,Weak.headF 2 48 [1, 2, 5, 6, 7, 8] (zc @hB trivial) zW,?_,?_⟩
         ·exact hltb
         ·omega
       | false =>
        rw [if_neg (by simp)] at hst
        rw [hst] at hB
        refine zR (zc @hltbI (zc @hd (zc @hg (zc @bC_len (zc @hlen3 trivial))))) trivial trivial ?_
        refine ⟨b + 1,Weak.headF 2 48 [1, 2, 5, 6, 7, 8] (zc @hB trivial) zW,?_,?_⟩
        ·exact hltb
        ·omega
      ·have eb : b = n := by omega
       subst eb
       have hnl : ¬ ((b : Int) < b) := by omega
       have hA' : (List.range (a + 1)).foldl (fun R a => rRow es b a R) R = (List.range b).foldl (rStep es a) S := hA
       refine zR (zc @hnl trivial) trivial trivial ?_
       refine ⟨a + 1,Weak.headF 2 48 [1, 2, 5, 6, 7] (zc @hA' trivial) zW,?_,?_⟩
       ·exact hlta
       ·omega
    ·have ea : a = n := by omega
     subst ea
     have hnl : ¬ ((a : Int) < a) := by omega
     have hN' : reachN es a v (k + 1) = (List.range a).foldl (fun R b => rRow es a b R) R := hN
     refine zR (zc @hnl trivial) trivial trivial ?_
     refine ⟨k + 1,Weak.headF 2 48 [1, 2, 5, 6] (zc @hN' trivial) zW,?_,?_⟩
     ·exact hlt
     ·omega
  ·have ek : k = n := by omega
   subst ek
   have hnl : ¬ ((k : Int) < k) := by omega
   have hlen := reachN_len es k v k
   refine zR (zc @hnl trivial) trivial trivial ?_
   have hR := bC_ref hlen (H := [Blk.box [.int .i64 (k : Int), .slice (eRows es) .none], Blk.box (bC (reachN es k v k))]) (id := 1) rfl
   simp [Rets, aret, Try.results103, ares, toT1, toT, tbools, reachL, hR]
def rowB (r : List Int) : Blk := .box (iC r)
def orStep (R S : List Bool) (u : Nat) : List Bool := S.set u (S.getD u false || R.getD u false)
def orK (R S : List Bool) (k : Nat) : List Bool := (List.range k).foldl (orStep R) S
theorem orStep_len (R S : List Bool) (u : Nat) : (orStep R S u).length = S.length := by simp [orStep]
theorem orK_len (R S : List Bool) (k : Nat) : (orK R S k).length = S.length := foldl_len (orStep_len R) _ _
def seenStep (es : List E) (n : Nat) (S : List Bool) (v : Nat) : List Bool := if S.getD v false then S else orK (reachL es n v) S n
def seenN (es : List E) (n v : Nat) : List Bool := (List.range v).foldl (seenStep es n) (List.replicate n false)
theorem seenN_len (es : List E) (n v : Nat) : (seenN es n v).length = n := by
 unfold seenN
 rw [foldl_len (fun S v => by unfold seenStep; split <;> simp [orK_len])]; simp
def partsN (es : List E) (n : Nat) : Nat → Nat
 | 0 => 0
 | v + 1 => if (seenN es n v).getD v false then partsN es n v else partsN es n v + 1
theorem partsN_le (es : List E) (n v : Nat) : partsN es n v ≤ v := by
 induction v with
 | zero => exact Nat.le_refl _
 | succ v ih => simp only [partsN]; split <;> omega
theorem getD_of {R : List Bool} {i : Nat} {x : Bool} (h : R[i]? = some x) : R.getD i false = x := by rw [List.getD_eq_getElem?_getD, h]; rfl
theorem Parts_ok (g : G) (n : Nat) (hc : checkG g = 0) (hn : g.n = n) (hl : g.es.length < 2 ^ 30) : ACall Try.prog 81 [tG g] (tint (partsN g.es n n)) := by
 have hn12 := (checkG_zero.1 hc).1
 have hre : ∀ v : Nat, v < n → ACall Try.prog 103 [tG g, tint v] (tbools (reachL g.es n v)) := fun v hv => Reached_ok g n v hc hn hv hl
 obtain ⟨gn, es⟩ := g
 simp only at hn hl hn12 hre ⊢
 subst hn
 refine ACall.of_body Try.func81 rfl (by kernel_rfl) ?_
 simp only [entry, Try.ntmps81, tG]
 refine zU ?_
 repeat' (first|((first|(refine zT ?_;intro K' hK')|(refine zG ?_ ?_<;>(try refine zH ?_)<;>intro hguard<;>(try exact zX)<;>try intro K' hK'))<;>((try simp +contextual only [go_sem, made_bools, Int.toNat_natCast, Nat.mul_one, bC_set, bC_len, List.length_replicate]);(repeat' first|(with_reducible refine hK' _ _ ?_;clear hK' K')|exact zY|with_reducible refine And.intro ?_ ?_|(with_reducible intro hpath;try exact zP)|(refine hK' _ _ ?_;clear hK' K')|fail);try refine zS ?_))|(refine zE ?_;refine hK _ _ ?_;clear hK K)|(refine zN ?_;try refine zS ?_)|refine zA ?_|(refine zB ?_;intro K hK)|(refine zC ?_ ?_<;>(try refine zH ?_)<;>intro hcond<;>try exact zX)|fail)
 refine AWp.loopS (α:=Nat) 46 (fun v=>[(1,.c (.ptr 0 0)),(2,.c (.int .i64 0)),(3,.c (.int .i64 (partsN es n v))),(4,.c (.ref 1 1 0 n n)),(5,.c (.int .i64 (v : Int)))]) (fun v=>[.box [.int .i64 (n : Int), .slice (eRows es) .none], .box (bC (seenN es n v))]) (fun v=>v ≤ n) (fun v=>n - v) (0) (hk:=Weak.headL 2 46 [1, 2, 3, 4, 5] zW) (h0:=?_) (round:=fun v hI=>?_)
 ·exact Nat.zero_le _
 ·have hv : v ≤ n := hI
  clear hI
  have hlen := seenN_len es n v
  have hpl := partsN_le es n v
  by_cases hlt : v < n
  ·have hltI : (v : Int) < n := by omega
   have hS1 : seenN es n (v + 1) = seenStep es n (seenN es n v) v := foldl_range_succ _ _ _
   have hP1 : partsN es n (v + 1) = if (seenN es n v).getD v false then partsN es n v else partsN es n v + 1 := rfl
   have hrv := hre v hlt
   have hrl := reachN_len es n v n
   generalize partsN es n v = p at *
   generalize seenN es n v = S at *
   obtain ⟨x, hx⟩ := bool_get hlen hlt
   unfold seenStep at hS1
   rw [getD_of hx] at hS1 hP1
   have hd := bC_drop hx
   have hg := bC_get hx
   cases x with
   | true =>
    rw [if_pos rfl] at hS1 hP1
    refine zR (zc @hltI (zc @hd (zc @hg (zc @bC_len (zc @hlen trivial))))) trivial trivial ?_
    refine ⟨v + 1,Weak.headF 2 46 [1, 2, 3, 4, 5] (zc @hS1 (zc @hP1 trivial)) zW,?_,?_⟩
    ·exact hlt
    ·omega
   | false =>
    rw [if_neg (by simp)] at hS1 hP1
    change (reachL es n v).length = n at hrl
    generalize reachL es n v = R at *
    refine zR (zc @hltI (zc @hd (zc @hg (zc @bC_len (zc @hlen trivial))))) (zc hrv trivial) trivial ?_
    refine AWp.loopS (α:=Nat) 46 (fun u=>[(1,.c (.ptr 0 0)),(2,.c (.int .i64 0)),(3,.c (.int .i64 ((p : Int) + 1))),(4,.c (.ref 1 1 0 n n)),(5,.c (.int .i64 (v : Int))),(6,.c (.slice (bRows R) .none)),(7,.c (.int .i64 (u : Int)))]) (fun u=>[.box [.int .i64 (n : Int), .slice (eRows es) .none], .box (bC (orK R S u))]) (fun u=>u ≤ n) (fun u=>n - u) (0) (hk:=Weak.headL 2 46 [1, 2, 3, 4, 5, 6, 7] zW) (h0:=?_) (round:=fun u hI=>?_)
    ·exact Nat.zero_le _
    ·have hu : u ≤ n := hI
     clear hI
     have hlen2 : (orK R S u).length = n := (orK_len R S u).trans hlen
     by_cases hltu : u < n
     ·have hltuI : (u : Int) < n := by omega
      have hO : orK R S (u + 1) = orStep R (orK R S u) u := foldl_range_succ _ _ _
      generalize orK R S u = T at *
      obtain ⟨y, hy⟩ := bool_get hlen2 hltu
      obtain ⟨z, hz⟩ := bool_get hrl hltu
      unfold orStep at hO
      rw [getD_of hy, getD_of hz] at hO
      have hd2 := bC_drop hy
      have hg2 := bC_get hy
      have hg3 := bRows_get hz
      cases y with
      | true =>
       rw [Bool.true_or] at hO
       refine zR (zc @hltuI (zc @hd2 (zc @hg2 (zc @hg3 (zc @bC_len (zc @hlen2 (zc @bC_set (zc @bRows_len (zc @hrl trivial))))))))) trivial trivial ?_
       refine ⟨u + 1,Weak.headF 2 46 [1, 2, 3, 4, 5, 6, 7] (zc @hO trivial) zW,?_,?_⟩
       ·exact hltu
       ·omega
      | false =>
       rw [Bool.false_or] at hO
       refine zR (zc @hltuI (zc @hd2 (zc @hg2 (zc @hg3 (zc @bC_len (zc @hlen2 (zc @bC_set (zc @bRows_len (zc @hrl trivial))))))))) trivial trivial ?_
       refine ⟨u + 1,Weak.headF 2 46 [1, 2, 3, 4, 5, 6, 7] (zc @hO trivial) zW,?_,?_⟩
       ·exact hltu
       ·omega
     ·have eu : u = n := by omega
      subst eu
      have hnl : ¬ ((u : Int) < u) := by omega
      refine zR (zc @hnl trivial) trivial trivial ?_
      refine ⟨v + 1,Weak.headF 2 46 [1, 2, 3, 4, 5] (zc @hS1 (zc @hP1 trivial)) zW,?_,?_⟩
      ·exact hlt
      ·omega
  ·have ev : v = n := by omega
   subst ev
   have hnl : ¬ ((v : Int) < v) := by omega
   refine zR (zc @hnl trivial) trivial trivial ?_
   simp [Rets, aret, Blk.cells, ty, Try.results81, ares, toT1, toT, borrow, borrow0, capCell, toTree0, tint]
structure PermL (n : Nat) (l : List Int) : Prop where
 len : l.length = n
 rng : ∀ x, x ∈ l → 0 ≤ x ∧ x < n
 nd : l.Nodup
def nrm (F : Int → Int) (x : E) : E := ⟨min (F x.a) (F x.b), max (F x.a) (F x.b), x.m⟩
structure Ren (g h : G) (n : Nat) (F : Int → Int) : Prop where
 c : checkG g = 0
 nn : g.n = n
 c' : checkG h = 0
 nn' : h.n = n
 rng : ∀ v : Int, 0 ≤ v ∧ v < n → 0 ≤ F v ∧ F v < n
 inj : ∀ u v : Int, 0 ≤ u ∧ u < n → 0 ≤ v ∧ v < n → F u = F v → u = v
 perm : h.es.Perm (g.es.map (nrm F))
def tabRows (T : List (List Int)) : List (List Tree) := (T.map fun r => Tree.slice (iRows r)).map fun t => [t]
def tTab (T : List (List Int)) : TVal := .t (.slice (tabRows T))
attribute [go_sem] tTab
structure Sq (n : Nat) (T : List (List Int)) : Prop where
 len : T.length = n
 row : ∀ r, r ∈ T → r.length = n
def rowE (f : Nat → Int) (a b : Nat) : List E := (List.range b).filterMap fun j => if a ≤ j ∧ 0 < f j then some ⟨a, j, f j⟩ else none
@[simp] theorem rowE_start (f : Nat → Int) (a : Nat) : rowE f a a = [] := by
 simp only [rowE, List.filterMap_eq_nil_iff, List.mem_range]
 intro j hj
 rw [if_neg (by omega)]
end Go.Proofs.Ytdhfgihnoimoaaa
