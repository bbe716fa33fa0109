/- A part of the proof. -/
import Derived.Test.YtgklecfiflhjmaaPart21
import Derived.Test.YtgklecfiflhjmaaLayerD
import Derived.Test.YtgklecfiflhjmaaLayerC
import Derived.Test.YtgklecfiflhjmaaPart14
import Derived.Test.YtgklecfiflhjmaaPart20
import Derived.Test.YtgklecfiflhjmaaPart19
import Derived.Test.YtgklecfiflhjmaaPart13
import Derived.Test.YtgklecfiflhjmaaPart11
import Derived.Test.YtgklecfiflhjmaaPart12
import Derived.Test.YtgklecfiflhjmaaPart15
set_option linter.all false
set_option maxHeartbeats 4000000
set_option maxRecDepth 100000
namespace Go.Proofs.Ytgklecfiflhjmaa
open Go.Sp
theorem bC_in {m : Nat} {F : List Bool} : Go.Sp.cellsIn m (bC F) := cellsIn_map fun _ => True.intro
def inK (set : List Int) (neg : Bool) (n k : Nat) : List Bool := (List.range n).map fun u => decide (u < k) && xor neg (decide ((u : Int) ∈ set))
theorem inK_len (set : List Int) (neg : Bool) (n k : Nat) : (inK set neg n k).length = n := by simp [inK]
theorem inK_zero (set : List Int) (neg : Bool) (n : Nat) : List.replicate n false = inK set neg n 0 := by
 unfold inK
 rw [eq_comm, List.eq_replicate_iff]
 exact ⟨by simp, fun x hx => by obtain ⟨u, _, rfl⟩ := List.mem_map.1 hx; simp⟩
theorem inK_get (set : List Int) (neg : Bool) {n i : Nat} (k : Nat) (h : i < n) : (inK set neg n k)[i]? = some (decide (i < k) && xor neg (decide ((i : Int) ∈ set))) := by
 unfold inK; rw [List.getElem?_map, List.getElem?_range h]; rfl
theorem inK_set (set : List Int) (neg : Bool) (n k : Nat) : (inK set neg n k).set k (xor neg (decide ((k : Int) ∈ set))) = inK set neg n (k + 1) := by
 apply List.ext_getElem?
 intro i
 by_cases hi : i < n
 ·rw [inK_get set neg (k + 1) hi]
  by_cases e : k = i
  ·subst e
   rw [List.getElem?_set_self (by rw [inK_len]; exact hi), decide_eq_true (by omega : k < k + 1), Bool.true_and]
  ·rw [List.getElem?_set_ne e, inK_get set neg k hi]
   by_cases h : i < k
   ·rw [decide_eq_true h, decide_eq_true (by omega : i < k + 1)]
   ·rw [decide_eq_false h, decide_eq_false (by omega : ¬ i < k + 1)]
 ·rw [List.getElem?_eq_none (by rw [List.length_set, inK_len]; omega), List.getElem?_eq_none (by rw [inK_len]; omega)]
def inR (set : List Int) (neg : Bool) (n : Nat) : List Bool := inK set neg n n
def bondB (g : G) (set : List Int) : Bool := decide ((partsV (genS (pairsE g.es)).1 g.n.toNat).length = 1) && wholeB g.es g.n.toNat (inR set false g.n.toNat) && wholeB g.es g.n.toNat (inR set true g.n.toNat)
theorem wh_call (n : Nat) (es : List E) (R : List Bool) (hc : checkG ⟨n, es⟩ = 0) (hR : R.length = n) (hl : es.length ≤ 40) {H : List Blk} {id : Nat} (hid : H[id]? = some (.box (bC R))) :
  ACallH Try.prog 60 H [.agg [.int .i64 (n : Int), .slice (eRows es) .none], .c (.ref id 1 0 n n)] H (.c (.bool (wholeB es n R))) := by
 have h := whole_ok ⟨n, es⟩ n R hc rfl hR hl
 refine ACall.hb h ?_ rfl
 have hb := bC_ref (H := H) hR hid
 simp [toT, tG, tbools, borrow, borrow0, toTree0] at hb ⊢
 rw [hb]; rfl
theorem Bond_ok (g : G) (set : List Int) (hg : g.es.length ≤ 40) (hl : set.length < 2 ^ 40) : ACall Try.prog 22 [tG g, tints set] (.tup [tbool (decide (subG g set = 0) && bondB g set), tint (subG g set)]) := by
 have hC := Check_ok g (by omega)
 have hS := Subset_ok g set (by omega) hl
 by_cases hc : checkG g = 0
 case neg =>
  have e : subG g set = checkG g := by unfold subG; rw [if_pos hc]
  rw [e, decide_eq_false hc, Bool.false_and]
  generalize checkG g = E at *
  obtain ⟨n, es⟩ := g
  refine ACall.of_body Try.func22 rfl (by kernel_rfl) ?_
  simp only [entry, Try.ntmps22, tG, tints]
  refine zU ?_
  refine zR (zc @hc trivial) (zc hC trivial) trivial ?_
  simp [Rets, aret, Blk.cells, ty, Try.results22, ares, toT1, toT, borrow, borrow0, capCell, toTree0, tint, tbool]
 by_cases h0 : subG g set = 0
 case neg =>
  rw [decide_eq_false h0, Bool.false_and]
  rw [hc] at hC
  generalize subG g set = E at *
  obtain ⟨n, es⟩ := g
  refine ACall.of_body Try.func22 rfl (by kernel_rfl) ?_
  simp only [entry, Try.ntmps22, tG, tints]
  refine zU ?_
  refine zR (zc @h0 trivial) (zc hC (zc hS trivial)) trivial ?_
  simp [Rets, aret, Blk.cells, ty, Try.results22, ares, toT1, toT, borrow, borrow0, capCell, toTree0, tint, tbool]
 rw [decide_eq_true h0, Bool.true_and, h0]
 rw [hc] at hC
 rw [h0] at hS
 have hJ := cjoined_ok g hc (by omega)
 have hF := (uf _ (pairs_in12 hc)).ok
 have h12 := (checkG_zero.1 hc).1
 unfold bondB
 obtain ⟨nI, es⟩ := g
 simp only at h12 hg hJ hF ⊢
 obtain ⟨n, rfl⟩ := Int.eq_ofNat_of_zero_le (show 0 ≤ nI by omega)
 simp only [Int.toNat_natCast] at *
 have hlF := hF.len
 have hP := cpartsR_ok _ hF n (by omega) (by omega)
 unfold tF at hJ
 generalize (genS (pairsE es)).1 = F at *
 have hof : (fT F).map ofTree = fC F := fT_of F
 have hst := fC_store zero12 F (by rw [hlF]; rfl)
 have hz : fC zero12 = [.int .i64 0, .int .i64 0, .int .i64 0, .int .i64 0, .int .i64 0, .int .i64 0, .int .i64 0, .int .i64 0, .int .i64 0, .int .i64 0, .int .i64 0, .int .i64 0] := rfl
 rw [hz] at hst
 have hw1 := fun (H : List Blk) (id : Nat) (hid : H[id]? = some (.box (bC (inR set false n)))) => wh_call n es (inR set false n) hc (inK_len _ _ _ _) hg hid
 have hw2 := fun (H : List Blk) (id : Nat) (hid : H[id]? = some (.box (bC (inR set true n)))) => wh_call n es (inR set true n) hc (inK_len _ _ _ _) hg hid
 refine ACall.of_body Try.func22 rfl (by kernel_rfl) ?_
 simp only [entry, Try.ntmps22, tG, tints]
 refine zU ?_
 repeat' ((fail_if_success (with_reducible refine AWp.atSeq 7 ?_));(fail_if_success (with_reducible refine AWp.atLast 7 ?_));first|((first|(refine zT ?_;intro K' hK')|(refine zG ?_ ?_<;>(try refine zH ?_)<;>intro hguard<;>(try exact zX)<;>try intro K' hK'))<;>((try simp +contextual only [go_sem]);(repeat' first|(with_reducible refine hK' _ _ ?_;clear hK' K')|((with_reducible first|refine zK hC ?_|refine zK hS ?_);try simp +contextual only [go_sem])|exact zY|with_reducible refine And.intro ?_ ?_|(with_reducible intro hpath;try exact zP)|(refine hK' _ _ ?_;clear hK' K')|fail);try refine zS ?_))|(refine zE ?_;refine hK _ _ ?_;clear hK K)|(refine zN ?_;try refine zS ?_)|refine zA ?_|(refine zB ?_;intro K hK)|(refine zC ?_ ?_<;>(try refine zH ?_)<;>intro hcond<;>try exact zX)|fail)
 refine AWp.freezeP 2 0 rfl rfl (ts := [.int .i64 (n : Int), .slice (eRows es)]) rfl ?_
 simp only [List.set_cons_succ, List.set_cons_zero]
 refine AWp.seq_draw2b (wd := true) 3 2 5 (by decide +kernel) (fun K hK => ?_) (fun K hK => ?_)
 ·
  repeat' (first|((first|(refine zT ?_;intro K' hK')|(refine zG ?_ ?_<;>(try refine zH ?_)<;>intro hguard<;>(try exact zX)<;>try intro K' hK'))<;>((try simp +contextual only [go_sem, made_bools, Int.toNat_natCast, Nat.mul_one]);(repeat' first|(with_reducible refine hK' _ _ ?_;clear hK' K')|exact zY|with_reducible refine And.intro ?_ ?_|(with_reducible intro hpath;try exact zP)|(refine hK' _ _ ?_;clear hK' K')|fail);try refine zS ?_))|(refine zE ?_;refine hK _ _ ?_;clear hK K)|(refine zN ?_;try refine zS ?_)|refine zA ?_|(refine zB ?_;intro K hK)|(refine zC ?_ ?_<;>(try refine zH ?_)<;>intro hcond<;>try exact zX)|fail)
  rw [inK_zero set false n]
  have hzz : inK set false n 0 = inK set true n 0 := by rw [← inK_zero, ← inK_zero]
  refine AWp.loopS (α:=Nat) 66 (fun v=>[(1,.c (.slice (iRows set) .none)),(2,.c (.rptr [.int .i64 (n : Int), .slice (eRows es)])),(8,.c (.ref 1 1 0 n n)),(9,.c (.ref 2 1 0 n n)),(30,.c (.int .i64 (n : Int))),(31,.c (.int .i64 (v : Int)))]) (fun v=>[.ro [.int .i64 (n : Int), .slice (eRows es)], .box (bC (inK set false n v)), .box (bC (inK set true n v))]) (fun v=>v ≤ n) (fun v=>n - v) (0) (hk:=Weak.headL 3 66 [1, 2, 8, 9, 30, 31] (by (repeat' (first | exact valsIn_nil _ | exact blksIn_nil _ | exact cellsIn_nil _ | refine And.intro ?_ ?_ | refine valsIn_cons ?_ ?_ | refine blksIn_cons ?_ ?_ | refine cellsIn_cons ?_ ?_ | exact True.intro | exact fC_in | exact bC_in | (show _ < _; omega) | exact cellsIn_map (fun _ => True.intro) | (intro c hc; cases hc; done) | (intro c hc; simp only [List.mem_cons, List.not_mem_nil, or_false] at hc; subst hc; exact True.intro) | (intro c hc; simp only [List.mem_cons, List.not_mem_nil, or_false] at hc; rcases hc with rfl | rfl <;> exact True.intro))))) (h0:=?_) (round:=fun v hI=>?_)
  ·exact Nat.zero_le _
  ·have hv : v ≤ n := hI
   clear hI
   by_cases hvl : v < n
   ·have hvI : (v : Int) < (n : Int) := by omega
    have hCo := Contains_ok set (v : Int) hl
    have s1 := inK_set set false n v
    have s2 := inK_set set true n v
    have l1 := inK_len set false n v
    have l2 := inK_len set true n v
    have l3 := inK_len set false n (v + 1)
    rw [Bool.false_xor] at s1
    rw [Bool.true_xor] at s2
    generalize decide ((v : Int) ∈ set) = c at *
    have q1 := bC_set (inK set false n v) v c
    have q2 := bC_set (inK set true n v) v (!c)
    rw [s1] at q1
    rw [s2] at q2
    have g1 : (bC (inK set false n (v + 1)))[v]? = some (.bool c) := by rw [← q1]; exact List.getElem?_set_self (by rw [bC_len, l1]; omega)
    generalize inK set false n v = X at *
    generalize inK set true n v = Y at *
    repeat' (first|((first|(refine zT ?_;intro K' hK')|(refine zG ?_ ?_<;>(try refine zH ?_)<;>intro hguard<;>(try exact zX)<;>try intro K' hK'))<;>((try simp +contextual only [go_sem, hvI, l1, l2, l3, q1, q2, g1, bC_len, Int.toNat_natCast, Nat.mul_one]);(repeat' first|(with_reducible refine hK' _ _ ?_;clear hK' K')|(with_reducible refine zK hCo ?_;try simp +contextual only [go_sem, hvI, l1, l2, l3, q1, q2, g1, bC_len, Int.toNat_natCast, Nat.mul_one])|exact zY|with_reducible refine And.intro ?_ ?_|(with_reducible intro hpath;try exact zP)|(refine hK' _ _ ?_;clear hK' K')|fail);try refine zS ?_))|(refine zE ?_;refine hK _ _ ?_;clear hK K)|(refine zN ?_;try refine zS ?_)|refine zA ?_|(refine zB ?_;intro K hK)|(refine zC ?_ ?_<;>(try refine zH ?_)<;>intro hcond<;>try exact zX)|fail)
    refine ⟨v + 1,Weak.headN 3 66 [1, 2, 8, 9, 30, 31] (by (repeat' (first | exact valsIn_nil _ | exact blksIn_nil _ | exact cellsIn_nil _ | refine And.intro ?_ ?_ | refine valsIn_cons ?_ ?_ | refine blksIn_cons ?_ ?_ | refine cellsIn_cons ?_ ?_ | exact True.intro | exact fC_in | exact bC_in | (show _ < _; omega) | exact cellsIn_map (fun _ => True.intro) | (intro c hc; cases hc; done) | (intro c hc; simp only [List.mem_cons, List.not_mem_nil, or_false] at hc; subst hc; exact True.intro) | (intro c hc; simp only [List.mem_cons, List.not_mem_nil, or_false] at hc; rcases hc with rfl | rfl <;> exact True.intro)))),?_,?_⟩
    ·exact hvl
    ·omega
   ·have hnl : ¬ (v : Int) < (n : Int) := by omega
    have ev : v = n := by omega
    subst ev
    have r1 : inK set false v v = inR set false v := rfl
    have r2 : inK set true v v = inR set true v := rfl
    rw [r1, r2]
    have t1 : (inR set false v).length = v := inK_len _ _ _ _
    have t2 : (inR set true v).length = v := inK_len _ _ _ _
    generalize inR set false v = X at *
    generalize inR set true v = Y at *
    repeat' ((fail_if_success (with_reducible refine AWp.atSeq 15 ?_));(fail_if_success (with_reducible refine AWp.atLast 15 ?_));first|((first|(refine zT ?_;intro K' hK')|(refine zG ?_ ?_<;>(try refine zH ?_)<;>intro hguard<;>(try exact zX)<;>try intro K' hK'))<;>((try simp +contextual only [go_sem, hnl, fC_len, fC_free, hof, hst, hlF]);(repeat' first|(with_reducible refine hK' _ _ ?_;clear hK' K')|(with_reducible refine zK hJ ?_;try simp +contextual only [go_sem, hnl, fC_len, fC_free, hof, hst, hlF])|exact zY|with_reducible refine And.intro ?_ ?_|(with_reducible intro hpath;try exact zP)|(refine hK' _ _ ?_;clear hK' K')|fail);try refine zS ?_))|(refine zE ?_;refine hK _ _ ?_;clear hK K)|(refine zN ?_;try refine zS ?_)|refine zA ?_|(refine zB ?_;intro K hK)|(refine zC ?_ ?_<;>(try refine zH ?_)<;>intro hcond<;>try exact zX)|fail)
    refine AWp.freezeP 11 3 rfl rfl (fC_trees F) ?_
    simp only [List.set_cons_succ, List.set_cons_zero]
    generalize wholeB es v X = w1 at *
    generalize wholeB es v Y = w2 at *
    by_cases hp : (partsV F v).length = 1
    ·have hpI : ((partsV F v).length : Int) = 1 := by omega
     rw [decide_eq_true hp, Bool.true_and]
     cases w1
     ·
      repeat' (first|((first|(refine zT ?_;intro K' hK')|(refine zG ?_ ?_<;>(try refine zH ?_)<;>intro hguard<;>(try exact zX)<;>try intro K' hK'))<;>((try simp +contextual only [go_sem, hpI, llRows_len]);(repeat' first|(with_reducible refine hK' _ _ ?_;clear hK' K')|((with_reducible first|refine zK hP ?_|refine ⟨_,_,hw1 _ _ rfl,?_⟩|refine ⟨_,hw1 _ _ rfl,?_⟩);try simp +contextual only [go_sem, hpI, llRows_len])|exact zY|with_reducible refine And.intro ?_ ?_|(with_reducible intro hpath;try exact zP)|(refine hK' _ _ ?_;clear hK' K')|fail);try refine zS ?_))|(refine zE ?_;refine hK _ _ ?_;clear hK K)|(refine zN ?_;try refine zS ?_)|refine zA ?_|(refine zB ?_;intro K hK)|(refine zC ?_ ?_<;>(try refine zH ?_)<;>intro hcond<;>try exact zX)|fail)
      simp [Rets, aret, Blk.cells, ty, Try.results22, ares, toT1, toT, borrow, borrow0, capCell, toTree0, tint, tbool]
     ·cases w2
      ·
       repeat' (first|((first|(refine zT ?_;intro K' hK')|(refine zG ?_ ?_<;>(try refine zH ?_)<;>intro hguard<;>(try exact zX)<;>try intro K' hK'))<;>((try simp +contextual only [go_sem, hpI, llRows_len]);(repeat' first|(with_reducible refine hK' _ _ ?_;clear hK' K')|((with_reducible first|refine zK hP ?_|refine ⟨_,_,hw1 _ _ rfl,?_⟩|refine ⟨_,hw1 _ _ rfl,?_⟩|refine ⟨_,_,hw2 _ _ rfl,?_⟩|refine ⟨_,hw2 _ _ rfl,?_⟩);try simp +contextual only [go_sem, hpI, llRows_len])|exact zY|with_reducible refine And.intro ?_ ?_|(with_reducible intro hpath;try exact zP)|(refine hK' _ _ ?_;clear hK' K')|fail);try refine zS ?_))|(refine zE ?_;refine hK _ _ ?_;clear hK K)|(refine zN ?_;try refine zS ?_)|refine zA ?_|(refine zB ?_;intro K hK)|(refine zC ?_ ?_<;>(try refine zH ?_)<;>intro hcond<;>try exact zX)|fail)
       simp [Rets, aret, Blk.cells, ty, Try.results22, ares, toT1, toT, borrow, borrow0, capCell, toTree0, tint, tbool]
      ·
       repeat' (first|((first|(refine zT ?_;intro K' hK')|(refine zG ?_ ?_<;>(try refine zH ?_)<;>intro hguard<;>(try exact zX)<;>try intro K' hK'))<;>((try simp +contextual only [go_sem, hpI, llRows_len]);(repeat' first|(with_reducible refine hK' _ _ ?_;clear hK' K')|((with_reducible first|refine zK hP ?_|refine ⟨_,_,hw1 _ _ rfl,?_⟩|refine ⟨_,hw1 _ _ rfl,?_⟩|refine ⟨_,_,hw2 _ _ rfl,?_⟩|refine ⟨_,hw2 _ _ rfl,?_⟩);try simp +contextual only [go_sem, hpI, llRows_len])|exact zY|with_reducible refine And.intro ?_ ?_|(with_reducible intro hpath;try exact zP)|(refine hK' _ _ ?_;clear hK' K')|fail);try refine zS ?_))|(refine zE ?_;refine hK _ _ ?_;clear hK K)|(refine zN ?_;try refine zS ?_)|refine zA ?_|(refine zB ?_;intro K hK)|(refine zC ?_ ?_<;>(try refine zH ?_)<;>intro hcond<;>try exact zX)|fail)
       simp [Rets, aret, Blk.cells, ty, Try.results22, ares, toT1, toT, borrow, borrow0, capCell, toTree0, tint, tbool]
    ·have hpI : ¬ ((partsV F v).length : Int) = 1 := by omega
     rw [decide_eq_false hp, Bool.false_and, Bool.false_and]
     repeat' (first|((first|(refine zT ?_;intro K' hK')|(refine zG ?_ ?_<;>(try refine zH ?_)<;>intro hguard<;>(try exact zX)<;>try intro K' hK'))<;>((try simp +contextual only [go_sem, hpI, llRows_len]);(repeat' first|(with_reducible refine hK' _ _ ?_;clear hK' K')|(with_reducible refine zK hP ?_;try simp +contextual only [go_sem, hpI, llRows_len])|exact zY|with_reducible refine And.intro ?_ ?_|(with_reducible intro hpath;try exact zP)|(refine hK' _ _ ?_;clear hK' K')|fail);try refine zS ?_))|(refine zE ?_;refine hK _ _ ?_;clear hK K)|(refine zN ?_;try refine zS ?_)|refine zA ?_|(refine zB ?_;intro K hK)|(refine zC ?_ ?_<;>(try refine zH ?_)<;>intro hcond<;>try exact zX)|fail)
     simp [Rets, aret, Blk.cells, ty, Try.results22, ares, toT1, toT, borrow, borrow0, capCell, toTree0, tint, tbool]
 ·simp only [bswL, List.take_succ_cons, List.take_zero, List.drop_succ_cons, List.drop_zero, List.cons_append, List.nil_append, Nat.reduceMul]
  repeat' (first|((first|(refine zT ?_;intro K' hK')|(refine zG ?_ ?_<;>(try refine zH ?_)<;>intro hguard<;>(try exact zX)<;>try intro K' hK'))<;>((try simp +contextual only [go_sem, made_bools, Int.toNat_natCast, Nat.mul_one]);(repeat' first|(with_reducible refine hK' _ _ ?_;clear hK' K')|exact zY|with_reducible refine And.intro ?_ ?_|(with_reducible intro hpath;try exact zP)|(refine hK' _ _ ?_;clear hK' K')|fail);try refine zS ?_))|(refine zE ?_;refine hK _ _ ?_;clear hK K)|(refine zN ?_;try refine zS ?_)|refine zA ?_|(refine zB ?_;intro K hK)|(refine zC ?_ ?_<;>(try refine zH ?_)<;>intro hcond<;>try exact zX)|fail)
  rw [inK_zero set true n]
  have hzz : inK set true n 0 = inK set false n 0 := by rw [← inK_zero, ← inK_zero]
  refine AWp.loopS (α:=Nat) 66 (fun v=>[(1,.c (.slice (iRows set) .none)),(2,.c (.rptr [.int .i64 (n : Int), .slice (eRows es)])),(8,.c (.ref 2 1 0 n n)),(9,.c (.ref 1 1 0 n n)),(30,.c (.int .i64 (n : Int))),(31,.c (.int .i64 (v : Int)))]) (fun v=>[.ro [.int .i64 (n : Int), .slice (eRows es)], .box (bC (inK set true n v)), .box (bC (inK set false n v))]) (fun v=>v ≤ n) (fun v=>n - v) (0) (hk:=Weak.headL 3 66 [1, 2, 8, 9, 30, 31] (by (repeat' (first | exact valsIn_nil _ | exact blksIn_nil _ | exact cellsIn_nil _ | refine And.intro ?_ ?_ | refine valsIn_cons ?_ ?_ | refine blksIn_cons ?_ ?_ | refine cellsIn_cons ?_ ?_ | exact True.intro | exact fC_in | exact bC_in | (show _ < _; omega) | exact cellsIn_map (fun _ => True.intro) | (intro c hc; cases hc; done) | (intro c hc; simp only [List.mem_cons, List.not_mem_nil, or_false] at hc; subst hc; exact True.intro) | (intro c hc; simp only [List.mem_cons, List.not_mem_nil, or_false] at hc; rcases hc with rfl | rfl <;> exact True.intro))))) (h0:=?_) (round:=fun v hI=>?_)
  ·exact Nat.zero_le _
  ·have hv : v ≤ n := hI
   clear hI
   by_cases hvl : v < n
   ·have hvI : (v : Int) < (n : Int) := by omega
    have hCo := Contains_ok set (v : Int) hl
    have s1 := inK_set set false n v
    have s2 := inK_set set true n v
    have l1 := inK_len set false n v
    have l2 := inK_len set true n v
    have l3 := inK_len set false n (v + 1)
    rw [Bool.false_xor] at s1
    rw [Bool.true_xor] at s2
    generalize decide ((v : Int) ∈ set) = c at *
    have q1 := bC_set (inK set false n v) v c
    have q2 := bC_set (inK set true n v) v (!c)
    rw [s1] at q1
    rw [s2] at q2
    have g1 : (bC (inK set false n (v + 1)))[v]? = some (.bool c) := by rw [← q1]; exact List.getElem?_set_self (by rw [bC_len, l1]; omega)
    generalize inK set false n v = X at *
    generalize inK set true n v = Y at *
    repeat' (first|((first|(refine zT ?_;intro K' hK')|(refine zG ?_ ?_<;>(try refine zH ?_)<;>intro hguard<;>(try exact zX)<;>try intro K' hK'))<;>((try simp +contextual only [go_sem, hvI, l1, l2, l3, q1, q2, g1, bC_len, Int.toNat_natCast, Nat.mul_one]);(repeat' first|(with_reducible refine hK' _ _ ?_;clear hK' K')|(with_reducible refine zK hCo ?_;try simp +contextual only [go_sem, hvI, l1, l2, l3, q1, q2, g1, bC_len, Int.toNat_natCast, Nat.mul_one])|exact zY|with_reducible refine And.intro ?_ ?_|(with_reducible intro hpath;try exact zP)|(refine hK' _ _ ?_;clear hK' K')|fail);try refine zS ?_))|(refine zE ?_;refine hK _ _ ?_;clear hK K)|(refine zN ?_;try refine zS ?_)|refine zA ?_|(refine zB ?_;intro K hK)|(refine zC ?_ ?_<;>(try refine zH ?_)<;>intro hcond<;>try exact zX)|fail)
    refine ⟨v + 1,Weak.headN 3 66 [1, 2, 8, 9, 30, 31] (by (repeat' (first | exact valsIn_nil _ | exact blksIn_nil _ | exact cellsIn_nil _ | refine And.intro ?_ ?_ | refine valsIn_cons ?_ ?_ | refine blksIn_cons ?_ ?_ | refine cellsIn_cons ?_ ?_ | exact True.intro | exact fC_in | exact bC_in | (show _ < _; omega) | exact cellsIn_map (fun _ => True.intro) | (intro c hc; cases hc; done) | (intro c hc; simp only [List.mem_cons, List.not_mem_nil, or_false] at hc; subst hc; exact True.intro) | (intro c hc; simp only [List.mem_cons, List.not_mem_nil, or_false] at hc; rcases hc with rfl | rfl <;> exact True.intro)))),?_,?_⟩
    ·exact hvl
    ·omega
   ·have hnl : ¬ (v : Int) < (n : Int) := by omega
    have ev : v = n := by omega
    subst ev
    have r1 : inK set false v v = inR set false v := rfl
    have r2 : inK set true v v = inR set true v := rfl
    rw [r1, r2]
    have t1 : (inR set false v).length = v := inK_len _ _ _ _
    have t2 : (inR set true v).length = v := inK_len _ _ _ _
    generalize inR set false v = X at *
    generalize inR set true v = Y at *
    repeat' ((fail_if_success (with_reducible refine AWp.atSeq 15 ?_));(fail_if_success (with_reducible refine AWp.atLast 15 ?_));first|((first|(refine zT ?_;intro K' hK')|(refine zG ?_ ?_<;>(try refine zH ?_)<;>intro hguard<;>(try exact zX)<;>try intro K' hK'))<;>((try simp +contextual only [go_sem, hnl, fC_len, fC_free, hof, hst, hlF]);(repeat' first|(with_reducible refine hK' _ _ ?_;clear hK' K')|(with_reducible refine zK hJ ?_;try simp +contextual only [go_sem, hnl, fC_len, fC_free, hof, hst, hlF])|exact zY|with_reducible refine And.intro ?_ ?_|(with_reducible intro hpath;try exact zP)|(refine hK' _ _ ?_;clear hK' K')|fail);try refine zS ?_))|(refine zE ?_;refine hK _ _ ?_;clear hK K)|(refine zN ?_;try refine zS ?_)|refine zA ?_|(refine zB ?_;intro K hK)|(refine zC ?_ ?_<;>(try refine zH ?_)<;>intro hcond<;>try exact zX)|fail)
    refine AWp.freezeP 11 3 rfl rfl (fC_trees F) ?_
    simp only [List.set_cons_succ, List.set_cons_zero]
    generalize wholeB es v X = w1 at *
    generalize wholeB es v Y = w2 at *
    by_cases hp : (partsV F v).length = 1
    ·have hpI : ((partsV F v).length : Int) = 1 := by omega
     rw [decide_eq_true hp, Bool.true_and]
     cases w1
     ·
      repeat' (first|((first|(refine zT ?_;intro K' hK')|(refine zG ?_ ?_<;>(try refine zH ?_)<;>intro hguard<;>(try exact zX)<;>try intro K' hK'))<;>((try simp +contextual only [go_sem, hpI, llRows_len]);(repeat' first|(with_reducible refine hK' _ _ ?_;clear hK' K')|((with_reducible first|refine zK hP ?_|refine ⟨_,_,hw1 _ _ rfl,?_⟩|refine ⟨_,hw1 _ _ rfl,?_⟩);try simp +contextual only [go_sem, hpI, llRows_len])|exact zY|with_reducible refine And.intro ?_ ?_|(with_reducible intro hpath;try exact zP)|(refine hK' _ _ ?_;clear hK' K')|fail);try refine zS ?_))|(refine zE ?_;refine hK _ _ ?_;clear hK K)|(refine zN ?_;try refine zS ?_)|refine zA ?_|(refine zB ?_;intro K hK)|(refine zC ?_ ?_<;>(try refine zH ?_)<;>intro hcond<;>try exact zX)|fail)
      simp [Rets, aret, Blk.cells, ty, Try.results22, ares, toT1, toT, borrow, borrow0, capCell, toTree0, tint, tbool]
     ·cases w2
      ·
       repeat' (first|((first|(refine zT ?_;intro K' hK')|(refine zG ?_ ?_<;>(try refine zH ?_)<;>intro hguard<;>(try exact zX)<;>try intro K' hK'))<;>((try simp +contextual only [go_sem, hpI, llRows_len]);(repeat' first|(with_reducible refine hK' _ _ ?_;clear hK' K')|((with_reducible first|refine zK hP ?_|refine ⟨_,_,hw1 _ _ rfl,?_⟩|refine ⟨_,hw1 _ _ rfl,?_⟩|refine ⟨_,_,hw2 _ _ rfl,?_⟩|refine ⟨_,hw2 _ _ rfl,?_⟩);try simp +contextual only [go_sem, hpI, llRows_len])|exact zY|with_reducible refine And.intro ?_ ?_|(with_reducible intro hpath;try exact zP)|(refine hK' _ _ ?_;clear hK' K')|fail);try refine zS ?_))|(refine zE ?_;refine hK _ _ ?_;clear hK K)|(refine zN ?_;try refine zS ?_)|refine zA ?_|(refine zB ?_;intro K hK)|(refine zC ?_ ?_<;>(try refine zH ?_)<;>intro hcond<;>try exact zX)|fail)
       simp [Rets, aret, Blk.cells, ty, Try.results22, ares, toT1, toT, borrow, borrow0, capCell, toTree0, tint, tbool]
      ·
       repeat' (first|((first|(refine zT ?_;intro K' hK')|(refine zG ?_ ?_<;>(try refine zH ?_)<;>intro hguard<;>(try exact zX)<;>try intro K' hK'))<;>((try simp +contextual only [go_sem, hpI, llRows_len]);(repeat' first|(with_reducible refine hK' _ _ ?_;clear hK' K')|((with_reducible first|refine zK hP ?_|refine ⟨_,_,hw1 _ _ rfl,?_⟩|refine ⟨_,hw1 _ _ rfl,?_⟩|refine ⟨_,_,hw2 _ _ rfl,?_⟩|refine ⟨_,hw2 _ _ rfl,?_⟩);try simp +contextual only [go_sem, hpI, llRows_len])|exact zY|with_reducible refine And.intro ?_ ?_|(with_reducible intro hpath;try exact zP)|(refine hK' _ _ ?_;clear hK' K')|fail);try refine zS ?_))|(refine zE ?_;refine hK _ _ ?_;clear hK K)|(refine zN ?_;try refine zS ?_)|refine zA ?_|(refine zB ?_;intro K hK)|(refine zC ?_ ?_<;>(try refine zH ?_)<;>intro hcond<;>try exact zX)|fail)
       simp [Rets, aret, Blk.cells, ty, Try.results22, ares, toT1, toT, borrow, borrow0, capCell, toTree0, tint, tbool]
    ·have hpI : ¬ ((partsV F v).length : Int) = 1 := by omega
     rw [decide_eq_false hp, Bool.false_and, Bool.false_and]
     repeat' (first|((first|(refine zT ?_;intro K' hK')|(refine zG ?_ ?_<;>(try refine zH ?_)<;>intro hguard<;>(try exact zX)<;>try intro K' hK'))<;>((try simp +contextual only [go_sem, hpI, llRows_len]);(repeat' first|(with_reducible refine hK' _ _ ?_;clear hK' K')|(with_reducible refine zK hP ?_;try simp +contextual only [go_sem, hpI, llRows_len])|exact zY|with_reducible refine And.intro ?_ ?_|(with_reducible intro hpath;try exact zP)|(refine hK' _ _ ?_;clear hK' K')|fail);try refine zS ?_))|(refine zE ?_;refine hK _ _ ?_;clear hK K)|(refine zN ?_;try refine zS ?_)|refine zA ?_|(refine zB ?_;intro K hK)|(refine zC ?_ ?_<;>(try refine zH ?_)<;>intro hcond<;>try exact zX)|fail)
     simp [Rets, aret, Blk.cells, ty, Try.results22, ares, toT1, toT, borrow, borrow0, capCell, toTree0, tint, tbool]
theorem filter_first {p : Nat → Bool} {n v : Nat} (hv : v < n) (hp : p v = true) : ((List.range n).filter p).getD 0 0 = v ↔ ∀ u, u < v → p u = false := by
 have e : List.range n = List.range v ++ (List.range n).drop v := by
  have h := (List.take_append_drop v (List.range n)).symm
  rwa [List.take_range, Nat.min_eq_left (by omega)] at h
 have hd : (List.range n).drop v = v :: (List.range n).drop (v + 1) := by
  rw [List.drop_eq_getElem_cons (by simpa using hv)]; simp
 constructor
 ·intro h u hu
  rw [← Bool.not_eq_true]
  intro hpu
  have hne : (List.range v).filter p ≠ [] := fun h0 => by
   have : u ∈ (List.range v).filter p := List.mem_filter.2 ⟨List.mem_range.2 hu, hpu⟩
   rw [h0] at this; cases this
  rw [e, List.filter_append] at h
  cases hf : (List.range v).filter p with
  | nil => exact hne hf
  | cons x l =>
   rw [hf] at h
   have hx : x ∈ (List.range v).filter p := by rw [hf]; simp
   have := List.mem_range.1 (List.mem_filter.1 hx).1
   simp at h
   omega
 ·intro h
  have h0 : (List.range v).filter p = [] := List.filter_eq_nil_iff.2 fun u hu => by
   rw [h u (List.mem_range.1 hu)]; simp
  rw [e, List.filter_append, h0, hd, List.filter_cons, if_pos hp]; rfl
structure IndS (g : G) (n : Nat) (l : List Int) (R : List Bool) : Prop where
 c : checkG g = 0
 n' : g.n = n
 r : ∀ x, x ∈ l → 0 ≤ x ∧ x < n
 m : ∀ v, v < n → (R.getD v false = true ↔ (v : Int) ∈ l)
section
variable {g : G} {n : Nat} {l : List Int} {R : List Bool}
end
def bitN (w a : Nat) : Nat := w / 2 ^ a % 2
theorem bitN_le (w a : Nat) : bitN w a = 0 ∨ bitN w a = 1 := by unfold bitN; omega
theorem shrN (w a : Nat) (ha : a ≤ 12) : ((w : Int)).fdiv (2 ^ min a 64) = ((w / 2 ^ a : Nat) : Int) := by
 rw [Nat.min_eq_left (by omega)]
 have e : (2 : Int) ^ a = ((2 ^ a : Nat) : Int) := by simp
 rw [e, Int.fdiv_eq_ediv_of_nonneg _ (Int.natCast_nonneg _)]
 rfl
theorem andN (x : Nat) (hx : x < 2 ^ 40) : ibit .and .i64 (x : Int) 1 = ((x % 2 : Nat) : Int) := by
 have h : (BitVec.ofInt 64 (x : Int) &&& BitVec.ofInt 64 (1 : Int)).toNat = x % 2 := by
  rw [BitVec.ofInt_natCast, show BitVec.ofInt 64 (1 : Int) = BitVec.ofNat 64 1 from rfl, BitVec.toNat_and, BitVec.toNat_ofNat, BitVec.toNat_ofNat, Nat.mod_eq_of_lt (show x < 2 ^ 64 by omega), show 1 % 2 ^ 64 = 1 by decide, Nat.and_one_is_mod]
 show IntKind.i64.wrap (((BitVec.ofInt 64 (x : Int) &&& BitVec.ofInt 64 (1 : Int)).toNat : Nat) : Int) = _
 rw [h]
 exact wrap_in ⟨by show (-9223372036854775808 : Int) ≤ _; omega, by show _ ≤ (9223372036854775807 : Int); omega⟩
theorem shlN (n : Nat) (h : n ≤ 12) : (1 : Int) * 2 ^ min n 64 = ((2 ^ n : Nat) : Int) := by
 rw [Nat.min_eq_left (by omega), Int.one_mul]; simp
theorem pow12 {n : Nat} (h : n ≤ 12) : 2 ^ n ≤ 4096 ∧ 1 ≤ 2 ^ n := ⟨Nat.pow_le_pow_right (by omega) h, Nat.one_le_two_pow⟩
def setN (n w : Nat) : List Nat := (List.range n).filter fun v => decide (bitN w v = 1)
theorem setN_succ (n w : Nat) : setN (n + 1) w = if bitN w n = 1 then setN n w ++ [n] else setN n w := by
 unfold setN
 rw [List.range_succ, List.filter_append]
 by_cases h : bitN w n = 1 <;> simp [h]
theorem setN_len (n w : Nat) : (setN n w).length ≤ n := by unfold setN; exact Nat.le_trans (List.length_filter_le _ _) (by simp)
def cutW (w : Nat) : List E → Int
 | [] => 0
 | e :: es => (if bitN w e.a.toNat = bitN w e.b.toNat then 0 else e.m) + cutW w es
theorem cutW_append (w : Nat) (l m : List E) : cutW w (l ++ m) = cutW w l + cutW w m := by
 induction l with
 | nil => simp [cutW]
 | cons e l ih => simp only [List.cons_append, cutW, ih]; omega
theorem cutW_bound {es : List E} (h : ∀ e, e ∈ es → 1 ≤ e.m ∧ e.m ≤ 50) (w : Nat) : 0 ≤ cutW w es ∧ cutW w es ≤ 50 * es.length := by
 induction es with
 | nil => simp [cutW]
 | cons e es ih =>
  have h1 := h e (by simp)
  have h2 := ih fun x hx => h x (by simp [hx])
  simp only [cutW, List.length_cons]
  split <;> omega
def connStep (n : Nat) (es : List E) (s : Int × List Nat) (w : Nat) : Int × List Nat :=
 if w % 2 = 0 then s else if 0 ≤ s.1 ∧ s.1 < cutW w es then s else
  if cutW w es < s.1 ∨ s.1 < 0 ∨ cmpLL (zI (setN n w)) (zI s.2) < 0 then (cutW w es, setN n w) else s
def connW (n : Nat) (es : List E) (k : Nat) : Int × List Nat := (List.range k).foldl (connStep n es) (-1, [])
theorem connW_succ (n : Nat) (es : List E) (k : Nat) : connW n es (k + 1) = connStep n es (connW n es k) k := by unfold connW; rw [List.range_succ, List.foldl_append]; rfl
theorem connW_bound {es : List E} (h : ∀ e, e ∈ es → 1 ≤ e.m ∧ e.m ≤ 50) (n : Nat) : ∀ k, -1 ≤ (connW n es k).1 ∧ (connW n es k).1 ≤ 50 * es.length ∧ (connW n es k).2.length ≤ n := by
 intro k
 induction k with
 | zero => refine ⟨by show -1 ≤ (-1 : Int); omega, by show (-1 : Int) ≤ _; omega, Nat.zero_le _⟩
 | succ k ih =>
  rw [connW_succ]
  unfold connStep
  have h2 := cutW_bound h k
  have h3 := setN_len n k
  split
  ·exact ih
  split
  ·exact ih
  split
  ·exact ⟨by simp only; omega, h2.2, h3⟩
  ·exact ih
def connE (g : G) : Int := if checkG g ≠ 0 then checkG g else if g.n = 1 then 14 else 0
theorem Connectivity_ok (g : G) (hl : g.es.length ≤ 40) : ACall Try.prog 23 [tG g] (.tup [tint (if connE g ≠ 0 then 0 else (connW g.n.toNat g.es (2 ^ g.n.toNat - 1)).1), tints (if connE g ≠ 0 then [] else zI (connW g.n.toNat g.es (2 ^ g.n.toNat - 1)).2), tint (connE g)]) := by
 have hC := Check_ok g (by omega)
 unfold connE
 by_cases hc : checkG g = 0
 case neg =>
  rw [if_pos hc, if_pos hc, if_pos hc]
  generalize checkG g = E at *
  obtain ⟨n, es⟩ := g
  refine ACall.of_body Try.func23 rfl (by kernel_rfl) ?_
  simp only [entry, Try.ntmps23, tG]
  refine zU ?_
  refine zR (zc @hc trivial) (zc hC trivial) trivial ?_
  simp [Rets, aret, Blk.cells, ty, Try.results23, ares, toT1, toT, borrow, borrow0, capCell, toTree0, tint, tints, iRows]
 have h12 := (checkG_zero.1 hc).1
 have hm : ∀ e, e ∈ g.es → 1 ≤ e.m ∧ e.m ≤ 50 := fun e he => by have := (checkG_zero.1 hc).2.1 e he; unfold okE at this; omega
 have hrng := fun p hp => pairs_range hc (p := p) hp
 rw [if_neg (by omega : ¬ checkG g ≠ 0)]
 rw [hc] at hC
 obtain ⟨nI, es⟩ := g
 simp only at h12 hl hm hrng ⊢
 obtain ⟨n, rfl⟩ := Int.eq_ofNat_of_zero_le (show 0 ≤ nI by omega)
 simp only [Int.toNat_natCast] at *
 by_cases h1 : (n : Int) = 1
 ·rw [if_pos h1, if_pos (by decide), if_pos (by decide)]
  have hn1 : n = 1 := by omega
  subst hn1
  have e1 : (((1 : Nat) : Int)) = 1 := rfl
  rw [e1] at hC ⊢
  refine ACall.of_body Try.func23 rfl (by kernel_rfl) ?_
  simp only [entry, Try.ntmps23, tG]
  refine zU ?_
  repeat' (first|((first|(refine zT ?_;intro K' hK')|(refine zG ?_ ?_<;>(try refine zH ?_)<;>intro hguard<;>(try exact zX)<;>try intro K' hK'))<;>((try simp +contextual only [go_sem]);(repeat' first|(with_reducible refine hK' _ _ ?_;clear hK' K')|(with_reducible refine zK hC ?_;try simp +contextual only [go_sem])|exact zY|with_reducible refine And.intro ?_ ?_|(with_reducible intro hpath;try exact zP)|(refine hK' _ _ ?_;clear hK' K')|fail);try refine zS ?_))|(refine zE ?_;refine hK _ _ ?_;clear hK K)|(refine zN ?_;try refine zS ?_)|refine zA ?_|(refine zB ?_;intro K hK)|(refine zC ?_ ?_<;>(try refine zH ?_)<;>intro hcond<;>try exact zX)|fail)
  simp [Rets, aret, Blk.cells, ty, Try.results23, ares, toT1, toT, borrow, borrow0, capCell, toTree0, tint, tints, iRows]
 rw [if_neg h1, if_neg (by simp), if_neg (by simp)]
 have hn12 : n ≤ 12 := by omega
 have hpw := pow12 hn12
 have hsl := shlN n hn12
 refine ACall.of_body Try.func23 rfl (by kernel_rfl) ?_
 simp only [entry, Try.ntmps23, tG]
 refine zU ?_
 have hn0 : 0 ≤ (n : Int) := by omega
 have hr1 : (-9223372036854775808 : Int) ≤ ((2 ^ n : Nat) : Int) ∧ ((2 ^ n : Nat) : Int) ≤ 9223372036854775807 := by omega
 have hr2 : (-9223372036854775808 : Int) ≤ ((2 ^ n : Nat) : Int) - 1 ∧ ((2 ^ n : Nat) : Int) - 1 ≤ 9223372036854775807 := by omega
 generalize hP : 2 ^ n = P at *
 have hPm : (P : Int) - 1 = ((P - 1 : Nat) : Int) := by omega
 repeat' ((fail_if_success (with_reducible refine AWp.atSeq 9 ?_));(fail_if_success (with_reducible refine AWp.atLast 9 ?_));first|((first|(refine zT ?_;intro K' hK')|(refine zG ?_ ?_<;>(try refine zH ?_)<;>intro hguard<;>(try exact zX)<;>try intro K' hK'))<;>((try simp +contextual only [go_sem, h1, hsl, hn0, hPm, Int.toNat_natCast]);(repeat' first|(with_reducible refine hK' _ _ ?_;clear hK' K')|(with_reducible refine zK hC ?_;try simp +contextual only [go_sem, h1, hsl, hn0, hPm, Int.toNat_natCast])|exact zY|with_reducible refine And.intro ?_ ?_|(with_reducible intro hpath;try exact zP)|(refine hK' _ _ ?_;clear hK' K')|fail);try refine zS ?_))|(refine zE ?_;refine hK _ _ ?_;clear hK K)|(refine zN ?_;try refine zS ?_)|refine zA ?_|(refine zB ?_;intro K hK)|(refine zC ?_ ?_<;>(try refine zH ?_)<;>intro hcond<;>try exact zX)|fail)
 refine AWp.weak (Weak.opens ((fun t f => [f, f, f, f, f, f, f, t, f, f, f, f, f, f, f, f, f, f, f, f, f, f, f, f, f, f, f, f, f, f, f, f, f, f, f, f, f, f, f, f, f, f, f, f, f, f, f, f, f, f, f, f, f, f, f, f, f, f, f, f, f, f, f, f, f, f, f, f, f, f, f, f, f, f, f, f, f, f, f, f, f, f, f, f, f, f, f, f, f, f, f, f, f, f, f]) true false) 1 (by first | omega | simp)) ?_
 simp only [openS, openV, List.length_cons, List.length_nil, List.length_append, Nat.reduceAdd, List.cons_append, List.nil_append]
 refine AWp.weak (Weak.untok 7 rfl) ?_
 simp only [List.set_cons_succ, List.set_cons_zero]
 refine AWp.loopS (α:=Nat) 95 (fun w=>[(1,.c (.ptr 0 0)),(6,.c (.int .i64 (connW n es w).1)),(7,.c (.slice (iRows (zI (connW n es w).2)) .none)),(25,.c (.int .i64 ((P - 1 : Nat) : Int))),(26,.c (.int .i64 (w : Int)))]) (fun w=>[.box [.int .i64 (n : Int), .slice (eRows es) .none]]) (fun w=>w ≤ P - 1) (fun w=>P - 1 - w) (0) (hk:=Weak.headL 1 95 [1, 6, 7, 25, 26] zW) (h0:=?_) (round:=fun w hI=>?_)
 ·exact Nat.zero_le _
 ·have hw : w ≤ P - 1 := hI
  clear hI
  by_cases hwl : w < P - 1
  ·have hwI : (w : Int) < ((P - 1 : Nat) : Int) := by omega
   have hsu := connW_succ n es w
   have hbd := connW_bound hm n w
   have hcw := cutW_bound hm w
   have handw := andN w (by omega)
   unfold connStep at hsu
   generalize connW n es w = s at *
   obtain ⟨lst, bst⟩ := s
   simp only at hsu hbd ⊢
   by_cases h0 : w % 2 = 0
   ·rw [if_pos h0] at hsu
    have h0I : ((w % 2 : Nat) : Int) = 0 := by omega
    repeat' (first|((first|(refine zT ?_;intro K' hK')|(refine zG ?_ ?_<;>(try refine zH ?_)<;>intro hguard<;>(try exact zX)<;>try intro K' hK'))<;>((try simp +contextual only [go_sem, hwI, handw, h0I]);(repeat' first|(with_reducible refine hK' _ _ ?_;clear hK' K')|exact zY|with_reducible refine And.intro ?_ ?_|(with_reducible intro hpath;try exact zP)|(refine hK' _ _ ?_;clear hK' K')|fail);try refine zS ?_))|(refine zE ?_;refine hK _ _ ?_;clear hK K)|(refine zN ?_;try refine zS ?_)|refine zA ?_|(refine zB ?_;intro K hK)|(refine zC ?_ ?_<;>(try refine zH ?_)<;>intro hcond<;>try exact zX)|fail)
    refine ⟨w + 1,Weak.headF 1 95 [1, 6, 7, 25, 26] (zc @hsu trivial) zW,?_,?_⟩
    ·exact hwl
    ·omega
   ·rw [if_neg h0] at hsu
    have h0I : ¬ ((w % 2 : Nat) : Int) = 0 := by omega
    repeat' ((fail_if_success (with_reducible refine AWp.atSeq 14 ?_));(fail_if_success (with_reducible refine AWp.atLast 14 ?_));first|((first|(refine zT ?_;intro K' hK')|(refine zG ?_ ?_<;>(try refine zH ?_)<;>intro hguard<;>(try exact zX)<;>try intro K' hK'))<;>((try simp +contextual only [go_sem, hwI, handw, h0I, eRows_len]);(repeat' first|(with_reducible refine hK' _ _ ?_;clear hK' K')|exact zY|with_reducible refine And.intro ?_ ?_|(with_reducible intro hpath;try exact zP)|(refine hK' _ _ ?_;clear hK' K')|fail);try refine zS ?_))|(refine zE ?_;refine hK _ _ ?_;clear hK K)|(refine zN ?_;try refine zS ?_)|refine zA ?_|(refine zB ?_;intro K hK)|(refine zC ?_ ?_<;>(try refine zH ?_)<;>intro hcond<;>try exact zX)|fail)
    refine AWp.loopS (α:=Nat) 95 (fun i=>[(1,.c (.ptr 0 0)),(6,.c (.int .i64 lst)),(7,.c (.slice (iRows (zI bst)) .none)),(8,.c (.int .i64 (w : Int))),(9,.c (.int .i64 (cutW w (es.take i)))),(25,.c (.int .i64 ((P - 1 : Nat) : Int))),(26,.c (.int .i64 (w : Int))),(33,.c (.slice (eRows es) .none)),(34,.c (.int .i64 (es.length : Int))),(35,.c (.int .i64 (i : Int)))]) (fun i=>[.box [.int .i64 (n : Int), .slice (eRows es) .none]]) (fun i=>i ≤ es.length) (fun i=>es.length - i) (0) (hk:=Weak.headL 1 95 [1, 6, 7, 8, 9, 25, 26, 33, 34, 35] zW) (h0:=?_) (round:=fun i hI=>?_)
    ·exact Nat.zero_le _
    ·have hi : i ≤ es.length := hI
     clear hI
     by_cases hlt : i < es.length
     ·have hltI : (i : Int) < es.length := by omega
      have e0 := List.getElem?_eq_getElem hlt
      have e1 := eRows_get e0
      have hsn : es.take (i + 1) = es.take i ++ [es[i]] := List.take_succ_eq_append_getElem hlt
      have hcs := cutW_append w (es.take i) [es[i]]
      rw [← hsn] at hcs
      have hr := hrng (es[i].a, es[i].b) (List.mem_map.2 ⟨es[i], List.getElem_mem hlt, rfl⟩)
      have hmm := hm _ (List.getElem_mem hlt)
      have hcb := cutW_bound (es := es.take i) (fun e he => hm e (List.mem_of_mem_take he)) w
      rw [List.length_take] at hcb
      generalize es[i] = x at *
      obtain ⟨xa, xb, xm⟩ := x
      simp only at hr hcs e1 hmm
      obtain ⟨a, rfl⟩ := Int.eq_ofNat_of_zero_le hr.1.1
      obtain ⟨b, rfl⟩ := Int.eq_ofNat_of_zero_le hr.2.1
      simp only [cutW, Int.toNat_natCast, Int.add_zero] at hcs
      have sa := shrN w a (by omega)
      have sb := shrN w b (by omega)
      have aa := andN (w / 2 ^ a) (Nat.lt_of_le_of_lt (Nat.div_le_self _ _) (by omega))
      have ab := andN (w / 2 ^ b) (Nat.lt_of_le_of_lt (Nat.div_le_self _ _) (by omega))
      change _ = ((bitN w a : Nat) : Int) at aa
      change _ = ((bitN w b : Nat) : Int) at ab
      have a0 : 0 ≤ (a : Int) := by omega
      have b0 : 0 ≤ (b : Int) := by omega
      generalize w / 2 ^ a = wa at *
      generalize w / 2 ^ b = wb at *
      have ba := bitN_le w a
      have bb := bitN_le w b
      generalize bitN w a = pa at *
      generalize bitN w b = pb at *
      by_cases hp : pa = pb
      ·rw [if_pos hp] at hcs
       have hpI : (pa : Int) = (pb : Int) := by omega
       repeat' (first|((first|(refine zT ?_;intro K' hK')|(refine zG ?_ ?_<;>(try refine zH ?_)<;>intro hguard<;>(try exact zX)<;>try intro K' hK'))<;>((try simp +contextual only [go_sem, hltI, e1, sa, sb, aa, ab, a0, b0, hpI, eRows_len, Int.toNat_natCast]);(repeat' first|(with_reducible refine hK' _ _ ?_;clear hK' K')|exact zY|with_reducible refine And.intro ?_ ?_|(with_reducible intro hpath;try exact zP)|(refine hK' _ _ ?_;clear hK' K')|fail);try refine zS ?_))|(refine zE ?_;refine hK _ _ ?_;clear hK K)|(refine zN ?_;try refine zS ?_)|refine zA ?_|(refine zB ?_;intro K hK)|(refine zC ?_ ?_<;>(try refine zH ?_)<;>intro hcond<;>try exact zX)|fail)
       rw [show cutW w (es.take i) = cutW w (es.take (i + 1)) by omega]
       refine ⟨i + 1,Weak.headN 1 95 [1, 6, 7, 8, 9, 25, 26, 33, 34, 35] zW,?_,?_⟩
       ·exact hlt
       ·omega
      ·rw [if_neg hp] at hcs
       have hpI : ¬ (pa : Int) = (pb : Int) := by omega
       repeat' (first|((first|(refine zT ?_;intro K' hK')|(refine zG ?_ ?_<;>(try refine zH ?_)<;>intro hguard<;>(try exact zX)<;>try intro K' hK'))<;>((try simp +contextual only [go_sem, hltI, e1, sa, sb, aa, ab, a0, b0, hpI, eRows_len, Int.toNat_natCast]);(repeat' first|(with_reducible refine hK' _ _ ?_;clear hK' K')|exact zY|with_reducible refine And.intro ?_ ?_|(with_reducible intro hpath;try exact zP)|(refine hK' _ _ ?_;clear hK' K')|fail);try refine zS ?_))|(refine zE ?_;refine hK _ _ ?_;clear hK K)|(refine zN ?_;try refine zS ?_)|refine zA ?_|(refine zB ?_;intro K hK)|(refine zC ?_ ?_<;>(try refine zH ?_)<;>intro hcond<;>try exact zX)|fail)
       rw [← hcs]
       refine ⟨i + 1,Weak.headN 1 95 [1, 6, 7, 8, 9, 25, 26, 33, 34, 35] zW,?_,?_⟩
       ·exact hlt
       ·omega
     ·have hnl : ¬ (i : Int) < (es.length : Int) := by omega
      have ei : i = es.length := by omega
      subst ei
      rw [List.take_length]
      generalize cutW w es = sz at *
      by_cases hg : 0 ≤ lst ∧ lst < sz
      ·rw [if_pos hg] at hsu
       obtain ⟨g1, g2⟩ := hg
       repeat' (first|((first|(refine zT ?_;intro K' hK')|(refine zG ?_ ?_<;>(try refine zH ?_)<;>intro hguard<;>(try exact zX)<;>try intro K' hK'))<;>((try simp +contextual only [go_sem, hnl, g1, g2]);(repeat' first|(with_reducible refine hK' _ _ ?_;clear hK' K')|exact zY|with_reducible refine And.intro ?_ ?_|(with_reducible intro hpath;try exact zP)|(refine hK' _ _ ?_;clear hK' K')|fail);try refine zS ?_))|(refine zE ?_;refine hK _ _ ?_;clear hK K)|(refine zN ?_;try refine zS ?_)|refine zA ?_|(refine zB ?_;intro K hK)|(refine zC ?_ ?_<;>(try refine zH ?_)<;>intro hcond<;>try exact zX)|fail)
       refine ⟨w + 1,Weak.headF 1 95 [1, 6, 7, 25, 26] (zc @hsu trivial) zW,?_,?_⟩
       ·exact hwl
       ·omega
      ·rw [if_neg hg] at hsu
       have hset0 : zI (setN 0 w) = [] := rfl
       repeat' (first|((first|(refine zT ?_;intro K' hK')|(refine zG ?_ ?_<;>(try refine zH ?_)<;>intro hguard<;>(try exact zX)<;>try intro K' hK'))<;>((try simp +contextual only [go_sem, hnl]);(repeat' first|(with_reducible refine hK' _ _ ?_;clear hK' K')|exact zY|with_reducible refine And.intro ?_ ?_|(with_reducible intro hpath;try exact zP)|(refine hK' _ _ ?_;clear hK' K')|fail);try refine zS ?_))|(refine zE ?_;refine hK _ _ ?_;clear hK K)|(refine zN ?_;try refine zS ?_)|refine zA ?_|(refine zB ?_;intro K hK)|(refine zC ?_ ?_<;>(try refine zH ?_)<;>intro hcond<;>try exact zX)|fail)
       all_goals
        refine AWp.weak (Weak.opens ((fun t f => [f, f, f, f, f, f, f, f, f, f, f, f, t, f, f, f, f, f, f, f, f, f, f, f, f, f, f, f, f, f, f, f, f, f, f, f, f, f, f, f, f, f, f, f, f, f, f, f, f, f, f, f, f, f, f, f, f, f, f, f, f, f, f, f, f, f, f, f, f, f, f, f, f, f, f, f, f, f, f, f, f, f, f, f, f, f, f, f, f, f, f, f, f, f, f]) true false) 1 (by first | omega | simp)) ?_
        simp only [openS, openV, List.length_cons, List.length_nil, List.length_append, Nat.reduceAdd, List.cons_append, List.nil_append]
        refine AWp.loopS (α:=Nat) 95 (fun v=>[(1,.c (.ptr 0 0)),(6,.c (.int .i64 lst)),(7,.c (.slice (iRows (zI bst)) .none)),(8,.c (.int .i64 (w : Int))),(9,.c (.int .i64 sz)),(12,.c (.slice (iRows (zI (setN v w))) (.chain 1))),(25,.c (.int .i64 ((P - 1 : Nat) : Int))),(26,.c (.int .i64 (w : Int))),(63,.c (.int .i64 (n : Int))),(64,.c (.int .i64 (v : Int)))]) (fun v=>[.box [.int .i64 (n : Int), .slice (eRows es) .none], .chain (setN v w).length 1]) (fun v=>v ≤ n) (fun v=>n - v) (0) (hk:=Weak.headL 2 95 [1, 6, 7, 8, 9, 12, 25, 26, 63, 64] zW) (h0:=?_) (round:=fun v hI=>?_)
        ·exact Nat.zero_le _
        ·have hv : v ≤ n := hI
         clear hI
         by_cases hvl : v < n
         ·have hvI : (v : Int) < (n : Int) := by omega
          have v0 : 0 ≤ (v : Int) := by omega
          have sa := shrN w v (by omega)
          have aa := andN (w / 2 ^ v) (Nat.lt_of_le_of_lt (Nat.div_le_self _ _) (by omega))
          have ba := bitN_le w v
          have hss := setN_succ v w
          have hsl2 := setN_len v w
          change _ = ((bitN w v : Nat) : Int) at aa
          generalize w / 2 ^ v = wv at *
          generalize bitN w v = pv at *
          by_cases hp : pv = 1
          ·rw [if_pos hp] at hss
           have hpI : (pv : Int) = 1 := by omega
           have hzs := zI_snoc (setN v w) v
           rw [← hss] at hzs
           have hln : (setN (v + 1) w).length = (setN v w).length + 1 := by rw [hss]; simp
           generalize setN v w = d at *
           repeat' (first|((first|(refine zT ?_;intro K' hK')|(refine zG ?_ ?_<;>(try refine zH ?_)<;>intro hguard<;>(try exact zX)<;>try intro K' hK'))<;>((try simp +contextual only [go_sem, hvI, v0, sa, aa, hpI, iRows_len, iRows_snoc, zI_len, Int.toNat_natCast, chunks, List.range, List.range.loop]);(repeat' first|(with_reducible refine hK' _ _ ?_;clear hK' K')|(with_reducible exact iRows_k' (by assumption))|exact zY|with_reducible refine And.intro ?_ ?_|(with_reducible intro hpath;try exact zP)|(refine hK' _ _ ?_;clear hK' K')|fail);try refine zS ?_))|(refine zE ?_;refine hK _ _ ?_;clear hK K)|(refine zN ?_;try refine zS ?_)|refine zA ?_|(refine zB ?_;intro K hK)|(refine zC ?_ ?_<;>(try refine zH ?_)<;>intro hcond<;>try exact zX)|fail)
           rw [hzs]
           refine ⟨v + 1,Weak.headF 2 95 [1, 6, 7, 8, 9, 12, 25, 26, 63, 64] (zc @hln trivial) zW,?_,?_⟩
           ·exact hvl
           ·omega
          ·rw [if_neg hp] at hss
           have hpI : ¬ (pv : Int) = 1 := by omega
           repeat' (first|((first|(refine zT ?_;intro K' hK')|(refine zG ?_ ?_<;>(try refine zH ?_)<;>intro hguard<;>(try exact zX)<;>try intro K' hK'))<;>((try simp +contextual only [go_sem, hvI, v0, sa, aa, hpI, iRows_len, zI_len, Int.toNat_natCast]);(repeat' first|(with_reducible refine hK' _ _ ?_;clear hK' K')|exact zY|with_reducible refine And.intro ?_ ?_|(with_reducible intro hpath;try exact zP)|(refine hK' _ _ ?_;clear hK' K')|fail);try refine zS ?_))|(refine zE ?_;refine hK _ _ ?_;clear hK K)|(refine zN ?_;try refine zS ?_)|refine zA ?_|(refine zB ?_;intro K hK)|(refine zC ?_ ?_<;>(try refine zH ?_)<;>intro hcond<;>try exact zX)|fail)
           rw [← hss]
           refine ⟨v + 1,Weak.headN 2 95 [1, 6, 7, 8, 9, 12, 25, 26, 63, 64] zW,?_,?_⟩
           ·exact hvl
           ·omega
         ·have hnl3 : ¬ (v : Int) < (n : Int) := by omega
          have ev : v = n := by omega
          subst ev
          have hsl3 := setN_len v w
          have hCm := CompareL_ok (zI (setN v w)) (zI bst) (by rw [zI_len]; omega) (by rw [zI_len]; omega)
          generalize setN v w = d at *
          by_cases c1 : sz < lst
          ·rw [if_pos (.inl c1)] at hsu
           try (exfalso; omega)
           all_goals
            repeat' (first|((first|(refine zT ?_;intro K' hK')|(refine zG ?_ ?_<;>(try refine zH ?_)<;>intro hguard<;>(try exact zX)<;>try intro K' hK'))<;>((try simp +contextual only [go_sem, hnl3, c1]);(repeat' first|(with_reducible refine hK' _ _ ?_;clear hK' K')|exact zY|with_reducible refine And.intro ?_ ?_|(with_reducible intro hpath;try exact zP)|(refine hK' _ _ ?_;clear hK' K')|fail);try refine zS ?_))|(refine zE ?_;refine hK _ _ ?_;clear hK K)|(refine zN ?_;try refine zS ?_)|refine zA ?_|(refine zB ?_;intro K hK)|(refine zC ?_ ?_<;>(try refine zH ?_)<;>intro hcond<;>try exact zX)|fail)
            refine ⟨w + 1,(Weak.untok 7 rfl).trans (Weak.headF 1 95 [1, 6, 7, 25, 26] (zc @hsu trivial) zW),?_,?_⟩
            ·exact hwl
            ·omega
          ·by_cases c2 : lst < 0
           ·rw [if_pos (.inr (.inl c2))] at hsu
            try (exfalso; omega)
            all_goals
             repeat' (first|((first|(refine zT ?_;intro K' hK')|(refine zG ?_ ?_<;>(try refine zH ?_)<;>intro hguard<;>(try exact zX)<;>try intro K' hK'))<;>((try simp +contextual only [go_sem, hnl3, c1, c2]);(repeat' first|(with_reducible refine hK' _ _ ?_;clear hK' K')|exact zY|with_reducible refine And.intro ?_ ?_|(with_reducible intro hpath;try exact zP)|(refine hK' _ _ ?_;clear hK' K')|fail);try refine zS ?_))|(refine zE ?_;refine hK _ _ ?_;clear hK K)|(refine zN ?_;try refine zS ?_)|refine zA ?_|(refine zB ?_;intro K hK)|(refine zC ?_ ?_<;>(try refine zH ?_)<;>intro hcond<;>try exact zX)|fail)
             refine ⟨w + 1,(Weak.untok 7 rfl).trans (Weak.headF 1 95 [1, 6, 7, 25, 26] (zc @hsu trivial) zW),?_,?_⟩
             ·exact hwl
             ·omega
           ·try (exfalso; omega)
            all_goals
             by_cases c3 : cmpLL (zI d) (zI bst) < 0
             ·rw [if_pos (.inr (.inr c3))] at hsu
              generalize cmpLL (zI d) (zI bst) = cm at *
              repeat' (first|((first|(refine zT ?_;intro K' hK')|(refine zG ?_ ?_<;>(try refine zH ?_)<;>intro hguard<;>(try exact zX)<;>try intro K' hK'))<;>((try simp +contextual only [go_sem, hnl3, c1, c2, c3]);(repeat' first|(with_reducible refine hK' _ _ ?_;clear hK' K')|(with_reducible refine zK hCm ?_;try simp +contextual only [go_sem, hnl3, c1, c2, c3])|exact zY|with_reducible refine And.intro ?_ ?_|(with_reducible intro hpath;try exact zP)|(refine hK' _ _ ?_;clear hK' K')|fail);try refine zS ?_))|(refine zE ?_;refine hK _ _ ?_;clear hK K)|(refine zN ?_;try refine zS ?_)|refine zA ?_|(refine zB ?_;intro K hK)|(refine zC ?_ ?_<;>(try refine zH ?_)<;>intro hcond<;>try exact zX)|fail)
              refine ⟨w + 1,(Weak.untok 7 rfl).trans (Weak.headF 1 95 [1, 6, 7, 25, 26] (zc @hsu trivial) zW),?_,?_⟩
              ·exact hwl
              ·omega
             ·rw [if_neg (fun h => by rcases h with h | h | h; exact c1 h; exact c2 h; exact c3 h)] at hsu
              generalize cmpLL (zI d) (zI bst) = cm at *
              repeat' (first|((first|(refine zT ?_;intro K' hK')|(refine zG ?_ ?_<;>(try refine zH ?_)<;>intro hguard<;>(try exact zX)<;>try intro K' hK'))<;>((try simp +contextual only [go_sem, hnl3, c1, c2, c3]);(repeat' first|(with_reducible refine hK' _ _ ?_;clear hK' K')|(with_reducible refine zK hCm ?_;try simp +contextual only [go_sem, hnl3, c1, c2, c3])|exact zY|with_reducible refine And.intro ?_ ?_|(with_reducible intro hpath;try exact zP)|(refine hK' _ _ ?_;clear hK' K')|fail);try refine zS ?_))|(refine zE ?_;refine hK _ _ ?_;clear hK K)|(refine zN ?_;try refine zS ?_)|refine zA ?_|(refine zB ?_;intro K hK)|(refine zC ?_ ?_<;>(try refine zH ?_)<;>intro hcond<;>try exact zX)|fail)
              refine ⟨w + 1,Weak.headF 1 95 [1, 6, 7, 25, 26] (zc @hsu trivial) zW,?_,?_⟩
              ·exact hwl
              ·omega
  ·have hnl : ¬ (w : Int) < ((P - 1 : Nat) : Int) := by omega
   have ew : w = P - 1 := by omega
   subst ew
   refine zR (zc @hnl trivial) trivial trivial ?_
   simp [Rets, aret, Blk.cells, ty, Try.results23, ares, toT1, toT, borrow, borrow0, capCell, toTree0, tint, tints]
end Go.Proofs.Ytgklecfiflhjmaa
