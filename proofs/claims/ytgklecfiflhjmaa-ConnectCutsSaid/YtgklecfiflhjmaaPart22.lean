/- A part of the proof. -/
import Derived.Test.YtgklecfiflhjmaaPart21
import Derived.Test.YtgklecfiflhjmaaLayerD
import Derived.Test.YtgklecfiflhjmaaLayerC
import Derived.Test.YtgklecfiflhjmaaPart13
import Derived.Test.YtgklecfiflhjmaaPart20
import Derived.Test.YtgklecfiflhjmaaPart19
import Derived.Test.YtgklecfiflhjmaaPart11
import Derived.Test.YtgklecfiflhjmaaPart12
set_option linter.all false
set_option maxHeartbeats 4000000
set_option maxRecDepth 100000
namespace Go.Proofs.Ytgklecfiflhjmaa
open Go.Sp
theorem bC_in {m : Nat} {F : List Bool} : Go.Sp.cellsIn m (bC F) := cellsIn_map fun _ => True.intro
def inK (set : List Int) (neg : Bool) (n k : Nat) : List Bool := (List.range n).map fun u => decide (u < k) && xor neg (decide ((u : Int) ∈ set))
theorem inK_len (set : List Int) (neg : Bool) (n k : Nat) : (inK set neg n k).length = n := by simp [inK]
theorem inK_zero (set : List Int) (neg : Bool) (n : Nat) : List.replicate n false = inK set neg n 0 := by
 unfold inK
 rw [eq_comm, List.eq_replicate_iff]
 exact ⟨by simp, fun x hx => by obtain ⟨u, _, rfl⟩ := List.mem_map.1 hx; simp⟩
theorem inK_get (set : List Int) (neg : Bool) {n i : Nat} (k : Nat) (h : i < n) : (inK set neg n k)[i]? = some (decide (i < k) && xor neg (decide ((i : Int) ∈ set))) := by
 unfold inK; rw [List.getElem?_map, List.getElem?_range h]; rfl
theorem inK_set (set : List Int) (neg : Bool) (n k : Nat) : (inK set neg n k).set k (xor neg (decide ((k : Int) ∈ set))) = inK set neg n (k + 1) := by
 apply List.ext_getElem?
 intro i
 by_cases hi : i < n
 ·rw [inK_get set neg (k + 1) hi]
  by_cases e : k = i
  ·subst e
   rw [List.getElem?_set_self (by rw [inK_len]; exact hi), decide_eq_true (by omega : k < k + 1), Bool.true_and]
  ·rw [List.getElem?_set_ne e, inK_get set neg k hi]
   by_cases h : i < k
   ·rw [decide_eq_true h, decide_eq_true (by omega : i < k + 1)]
   ·rw [decide_eq_false h, decide_eq_false (by omega : ¬ i < k + 1)]
 ·rw [List.getElem?_eq_none (by rw [List.length_set, inK_len]; omega), List.getElem?_eq_none (by rw [inK_len]; omega)]
def inR (set : List Int) (neg : Bool) (n : Nat) : List Bool := inK set neg n n
def bondB (g : G) (set : List Int) : Bool := decide ((partsV (genS (pairsE g.es)).1 g.n.toNat).length = 1) && wholeB g.es g.n.toNat (inR set false g.n.toNat) && wholeB g.es g.n.toNat (inR set true g.n.toNat)
theorem wh_call (n : Nat) (es : List E) (R : List Bool) (hc : checkG ⟨n, es⟩ = 0) (hR : R.length = n) (hl : es.length ≤ 40) {H : List Blk} {id : Nat} (hid : H[id]? = some (.box (bC R))) :
  ACallH Try.prog 60 H [.agg [.int .i64 (n : Int), .slice (eRows es) .none], .c (.ref id 1 0 n n)] H (.c (.bool (wholeB es n R))) := by
 have h := whole_ok ⟨n, es⟩ n R hc rfl hR hl
 refine ACall.hb h ?_ rfl
 have hb := bC_ref (H := H) hR hid
 simp [toT, tG, tbools, borrow, borrow0, toTree0] at hb ⊢
 rw [hb]; rfl
theorem Bond_ok (g : G) (set : List Int) (hg : g.es.length ≤ 40) (hl : set.length < 2 ^ 40) : ACall Try.prog 22 [tG g, tints set] (.tup [tbool (decide (subG g set = 0) && bondB g set), tint (subG g set)]) := by
 have hC := Check_ok g (by omega)
 have hS := Subset_ok g set (by omega) hl
 by_cases hc : checkG g = 0
 case neg =>
  have e : subG g set = checkG g := by unfold subG; rw [if_pos hc]
  rw [e, decide_eq_false hc, Bool.false_and]
  generalize checkG g = E at *
  obtain ⟨n, es⟩ := g
  refine ACall.of_body Try.func22 rfl (by kernel_rfl) ?_
  simp only [entry, Try.ntmps22, tG, tints]
  refine zU ?_
  refine zR (zc @hc trivial) (zc hC trivial) trivial ?_
  simp [Rets, aret, Blk.cells, ty, Try.results22, ares, toT1, toT, borrow, borrow0, capCell, toTree0, tint, tbool]
 by_cases h0 : subG g set = 0
 case neg =>
  rw [decide_eq_false h0, Bool.false_and]
  rw [hc] at hC
  generalize subG g set = E at *
  obtain ⟨n, es⟩ := g
  refine ACall.of_body Try.func22 rfl (by kernel_rfl) ?_
  simp only [entry, Try.ntmps22, tG, tints]
  refine zU ?_
  refine zR (zc @h0 trivial) (zc hC (zc hS trivial)) trivial ?_
  simp [Rets, aret, Blk.cells, ty, Try.results22, ares, toT1, toT, borrow, borrow0, capCell, toTree0, tint, tbool]
 rw [decide_eq_true h0, Bool.true_and, h0]
 rw [hc] at hC
 rw [h0] at hS
 have hJ := cjoined_ok g hc (by omega)
 have hF := (uf _ (pairs_in12 hc)).ok
 have h12 := (checkG_zero.1 hc).1
 unfold bondB
 obtain ⟨nI, es⟩ := g
 simp only at h12 hg hJ hF ⊢
 obtain ⟨n, rfl⟩ := Int.eq_ofNat_of_zero_le (show 0 ≤ nI by omega)
 simp only [Int.toNat_natCast] at *
 have hlF := hF.len
 have hP := cpartsR_ok _ hF n (by omega) (by omega)
 unfold tF at hJ
 generalize (genS (pairsE es)).1 = F at *
 have hof : (fT F).map ofTree = fC F := fT_of F
 have hst := fC_store zero12 F (by rw [hlF]; rfl)
 have hz : fC zero12 = [.int .i64 0, .int .i64 0, .int .i64 0, .int .i64 0, .int .i64 0, .int .i64 0, .int .i64 0, .int .i64 0, .int .i64 0, .int .i64 0, .int .i64 0, .int .i64 0] := rfl
 rw [hz] at hst
 have hw1 := fun (H : List Blk) (id : Nat) (hid : H[id]? = some (.box (bC (inR set false n)))) => wh_call n es (inR set false n) hc (inK_len _ _ _ _) hg hid
 have hw2 := fun (H : List Blk) (id : Nat) (hid : H[id]? = some (.box (bC (inR set true n)))) => wh_call n es (inR set true n) hc (inK_len _ _ _ _) hg hid
 refine ACall.of_body Try.func22 rfl (by kernel_rfl) ?_
 simp only [entry, Try.ntmps22, tG, tints]
 refine zU ?_
 repeat' ((fail_if_success (with_reducible refine AWp.atSeq 7 ?_));(fail_if_success (with_reducible refine AWp.atLast 7 ?_));first|((first|(refine zT ?_;intro K' hK')|(refine zG ?_ ?_<;>(try refine zH ?_)<;>intro hguard<;>(try exact zX)<;>try intro K' hK'))<;>((try simp +contextual only [go_sem]);(repeat' first|(with_reducible refine hK' _ _ ?_;clear hK' K')|((with_reducible first|refine zK hC ?_|refine zK hS ?_);try simp +contextual only [go_sem])|exact zY|with_reducible refine And.intro ?_ ?_|(with_reducible intro hpath;try exact zP)|(refine hK' _ _ ?_;clear hK' K')|fail);try refine zS ?_))|(refine zE ?_;refine hK _ _ ?_;clear hK K)|(refine zN ?_;try refine zS ?_)|refine zA ?_|(refine zB ?_;intro K hK)|(refine zC ?_ ?_<;>(try refine zH ?_)<;>intro hcond<;>try exact zX)|fail)
 refine AWp.freezeP 2 0 rfl rfl (ts := [.int .i64 (n : Int), .slice (eRows es)]) rfl ?_
 simp only [List.set_cons_succ, List.set_cons_zero]
 refine AWp.seq_draw2b (wd := true) 3 2 5 (by decide +kernel) (fun K hK => ?_) (fun K hK => ?_)
 ·
  repeat' (first|((first|(refine zT ?_;intro K' hK')|(refine zG ?_ ?_<;>(try refine zH ?_)<;>intro hguard<;>(try exact zX)<;>try intro K' hK'))<;>((try simp +contextual only [go_sem, made_bools, Int.toNat_natCast, Nat.mul_one]);(repeat' first|(with_reducible refine hK' _ _ ?_;clear hK' K')|exact zY|with_reducible refine And.intro ?_ ?_|(with_reducible intro hpath;try exact zP)|(refine hK' _ _ ?_;clear hK' K')|fail);try refine zS ?_))|(refine zE ?_;refine hK _ _ ?_;clear hK K)|(refine zN ?_;try refine zS ?_)|refine zA ?_|(refine zB ?_;intro K hK)|(refine zC ?_ ?_<;>(try refine zH ?_)<;>intro hcond<;>try exact zX)|fail)
  rw [inK_zero set false n]
  have hzz : inK set false n 0 = inK set true n 0 := by rw [← inK_zero, ← inK_zero]
  refine AWp.loopS (α:=Nat) 66 (fun v=>[(1,.c (.slice (iRows set) .none)),(2,.c (.rptr [.int .i64 (n : Int), .slice (eRows es)])),(8,.c (.ref 1 1 0 n n)),(9,.c (.ref 2 1 0 n n)),(30,.c (.int .i64 (n : Int))),(31,.c (.int .i64 (v : Int)))]) (fun v=>[.ro [.int .i64 (n : Int), .slice (eRows es)], .box (bC (inK set false n v)), .box (bC (inK set true n v))]) (fun v=>v ≤ n) (fun v=>n - v) (0) (hk:=Weak.headL 3 66 [1, 2, 8, 9, 30, 31] (by (repeat' (first | exact valsIn_nil _ | exact blksIn_nil _ | exact cellsIn_nil _ | refine And.intro ?_ ?_ | refine valsIn_cons ?_ ?_ | refine blksIn_cons ?_ ?_ | refine cellsIn_cons ?_ ?_ | exact True.intro | exact fC_in | exact bC_in | (show _ < _; omega) | exact cellsIn_map (fun _ => True.intro) | (intro c hc; cases hc; done) | (intro c hc; simp only [List.mem_cons, List.not_mem_nil, or_false] at hc; subst hc; exact True.intro) | (intro c hc; simp only [List.mem_cons, List.not_mem_nil, or_false] at hc; rcases hc with rfl | rfl <;> exact True.intro))))) (h0:=?_) (round:=fun v hI=>?_)
  ·exact Nat.zero_le _
  ·have hv : v ≤ n := hI
   clear hI
   by_cases hvl : v < n
   ·have hvI : (v : Int) < (n : Int) := by omega
    have hCo := Contains_ok set (v : Int) hl
    have s1 := inK_set set false n v
    have s2 := inK_set set true n v
    have l1 := inK_len set false n v
    have l2 := inK_len set true n v
    have l3 := inK_len set false n (v + 1)
    rw [Bool.false_xor] at s1
    rw [Bool.true_xor] at s2
    generalize decide ((v : Int) ∈ set) = c at *
    have q1 := bC_set (inK set false n v) v c
    have q2 := bC_set (inK set true n v) v (!c)
    rw [s1] at q1
    rw [s2] at q2
    have g1 : (bC (inK set false n (v + 1)))[v]? = some (.bool c) := by rw [← q1]; exact List.getElem?_set_self (by rw [bC_len, l1]; omega)
    generalize inK set false n v = X at *
    generalize inK set true n v = Y at *
    repeat' (first|((first|(refine zT ?_;intro K' hK')|(refine zG ?_ ?_<;>(try refine zH ?_)<;>intro hguard<;>(try exact zX)<;>try intro K' hK'))<;>((try simp +contextual only [go_sem, hvI, l1, l2, l3, q1, q2, g1, bC_len, Int.toNat_natCast, Nat.mul_one]);(repeat' first|(with_reducible refine hK' _ _ ?_;clear hK' K')|(with_reducible refine zK hCo ?_;try simp +contextual only [go_sem, hvI, l1, l2, l3, q1, q2, g1, bC_len, Int.toNat_natCast, Nat.mul_one])|exact zY|with_reducible refine And.intro ?_ ?_|(with_reducible intro hpath;try exact zP)|(refine hK' _ _ ?_;clear hK' K')|fail);try refine zS ?_))|(refine zE ?_;refine hK _ _ ?_;clear hK K)|(refine zN ?_;try refine zS ?_)|refine zA ?_|(refine zB ?_;intro K hK)|(refine zC ?_ ?_<;>(try refine zH ?_)<;>intro hcond<;>try exact zX)|fail)
    refine ⟨v + 1,Weak.headN 3 66 [1, 2, 8, 9, 30, 31] (by (repeat' (first | exact valsIn_nil _ | exact blksIn_nil _ | exact cellsIn_nil _ | refine And.intro ?_ ?_ | refine valsIn_cons ?_ ?_ | refine blksIn_cons ?_ ?_ | refine cellsIn_cons ?_ ?_ | exact True.intro | exact fC_in | exact bC_in | (show _ < _; omega) | exact cellsIn_map (fun _ => True.intro) | (intro c hc; cases hc; done) | (intro c hc; simp only [List.mem_cons, List.not_mem_nil, or_false] at hc; subst hc; exact True.intro) | (intro c hc; simp only [List.mem_cons, List.not_mem_nil, or_false] at hc; rcases hc with rfl | rfl <;> exact True.intro)))),?_,?_⟩
    ·exact hvl
    ·omega
   ·have hnl : ¬ (v : Int) < (n : Int) := by omega
    have ev : v = n := by omega
    subst ev
    have r1 : inK set false v v = inR set false v := rfl
    have r2 : inK set true v v = inR set true v := rfl
    rw [r1, r2]
    have t1 : (inR set false v).length = v := inK_len _ _ _ _
    have t2 : (inR set true v).length = v := inK_len _ _ _ _
    generalize inR set false v = X at *
    generalize inR set true v = Y at *
    repeat' ((fail_if_success (with_reducible refine AWp.atSeq 15 ?_));(fail_if_success (with_reducible refine AWp.atLast 15 ?_));first|((first|(refine zT ?_;intro K' hK')|(refine zG ?_ ?_<;>(try refine zH ?_)<;>intro hguard<;>(try exact zX)<;>try intro K' hK'))<;>((try simp +contextual only [go_sem, hnl, fC_len, fC_free, hof, hst, hlF]);(repeat' first|(with_reducible refine hK' _ _ ?_;clear hK' K')|(with_reducible refine zK hJ ?_;try simp +contextual only [go_sem, hnl, fC_len, fC_free, hof, hst, hlF])|exact zY|with_reducible refine And.intro ?_ ?_|(with_reducible intro hpath;try exact zP)|(refine hK' _ _ ?_;clear hK' K')|fail);try refine zS ?_))|(refine zE ?_;refine hK _ _ ?_;clear hK K)|(refine zN ?_;try refine zS ?_)|refine zA ?_|(refine zB ?_;intro K hK)|(refine zC ?_ ?_<;>(try refine zH ?_)<;>intro hcond<;>try exact zX)|fail)
    refine AWp.freezeP 11 3 rfl rfl (fC_trees F) ?_
    simp only [List.set_cons_succ, List.set_cons_zero]
    generalize wholeB es v X = w1 at *
    generalize wholeB es v Y = w2 at *
    by_cases hp : (partsV F v).length = 1
    ·have hpI : ((partsV F v).length : Int) = 1 := by omega
     rw [decide_eq_true hp, Bool.true_and]
     cases w1
     ·
      repeat' (first|((first|(refine zT ?_;intro K' hK')|(refine zG ?_ ?_<;>(try refine zH ?_)<;>intro hguard<;>(try exact zX)<;>try intro K' hK'))<;>((try simp +contextual only [go_sem, hpI, llRows_len]);(repeat' first|(with_reducible refine hK' _ _ ?_;clear hK' K')|((with_reducible first|refine zK hP ?_|refine ⟨_,_,hw1 _ _ rfl,?_⟩|refine ⟨_,hw1 _ _ rfl,?_⟩);try simp +contextual only [go_sem, hpI, llRows_len])|exact zY|with_reducible refine And.intro ?_ ?_|(with_reducible intro hpath;try exact zP)|(refine hK' _ _ ?_;clear hK' K')|fail);try refine zS ?_))|(refine zE ?_;refine hK _ _ ?_;clear hK K)|(refine zN ?_;try refine zS ?_)|refine zA ?_|(refine zB ?_;intro K hK)|(refine zC ?_ ?_<;>(try refine zH ?_)<;>intro hcond<;>try exact zX)|fail)
      simp [Rets, aret, Blk.cells, ty, Try.results22, ares, toT1, toT, borrow, borrow0, capCell, toTree0, tint, tbool]
     ·cases w2
      ·
       repeat' (first|((first|(refine zT ?_;intro K' hK')|(refine zG ?_ ?_<;>(try refine zH ?_)<;>intro hguard<;>(try exact zX)<;>try intro K' hK'))<;>((try simp +contextual only [go_sem, hpI, llRows_len]);(repeat' first|(with_reducible refine hK' _ _ ?_;clear hK' K')|((with_reducible first|refine zK hP ?_|refine ⟨_,_,hw1 _ _ rfl,?_⟩|refine ⟨_,hw1 _ _ rfl,?_⟩|refine ⟨_,_,hw2 _ _ rfl,?_⟩|refine ⟨_,hw2 _ _ rfl,?_⟩);try simp +contextual only [go_sem, hpI, llRows_len])|exact zY|with_reducible refine And.intro ?_ ?_|(with_reducible intro hpath;try exact zP)|(refine hK' _ _ ?_;clear hK' K')|fail);try refine zS ?_))|(refine zE ?_;refine hK _ _ ?_;clear hK K)|(refine zN ?_;try refine zS ?_)|refine zA ?_|(refine zB ?_;intro K hK)|(refine zC ?_ ?_<;>(try refine zH ?_)<;>intro hcond<;>try exact zX)|fail)
       simp [Rets, aret, Blk.cells, ty, Try.results22, ares, toT1, toT, borrow, borrow0, capCell, toTree0, tint, tbool]
      ·
       repeat' (first|((first|(refine zT ?_;intro K' hK')|(refine zG ?_ ?_<;>(try refine zH ?_)<;>intro hguard<;>(try exact zX)<;>try intro K' hK'))<;>((try simp +contextual only [go_sem, hpI, llRows_len]);(repeat' first|(with_reducible refine hK' _ _ ?_;clear hK' K')|((with_reducible first|refine zK hP ?_|refine ⟨_,_,hw1 _ _ rfl,?_⟩|refine ⟨_,hw1 _ _ rfl,?_⟩|refine ⟨_,_,hw2 _ _ rfl,?_⟩|refine ⟨_,hw2 _ _ rfl,?_⟩);try simp +contextual only [go_sem, hpI, llRows_len])|exact zY|with_reducible refine And.intro ?_ ?_|(with_reducible intro hpath;try exact zP)|(refine hK' _ _ ?_;clear hK' K')|fail);try refine zS ?_))|(refine zE ?_;refine hK _ _ ?_;clear hK K)|(refine zN ?_;try refine zS ?_)|refine zA ?_|(refine zB ?_;intro K hK)|(refine zC ?_ ?_<;>(try refine zH ?_)<;>intro hcond<;>try exact zX)|fail)
       simp [Rets, aret, Blk.cells, ty, Try.results22, ares, toT1, toT, borrow, borrow0, capCell, toTree0, tint, tbool]
    ·have hpI : ¬ ((partsV F v).length : Int) = 1 := by omega
     rw [decide_eq_false hp, Bool.false_and, Bool.false_and]
     repeat' (first|((first|(refine zT ?_;intro K' hK')|(refine zG ?_ ?_<;>(try refine zH ?_)<;>intro hguard<;>(try exact zX)<;>try intro K' hK'))<;>((try simp +contextual only [go_sem, hpI, llRows_len]);(repeat' first|(with_reducible refine hK' _ _ ?_;clear hK' K')|(with_reducible refine zK hP ?_;try simp +contextual only [go_sem, hpI, llRows_len])|exact zY|with_reducible refine And.intro ?_ ?_|(with_reducible intro hpath;try exact zP)|(refine hK' _ _ ?_;clear hK' K')|fail);try refine zS ?_))|(refine zE ?_;refine hK _ _ ?_;clear hK K)|(refine zN ?_;try refine zS ?_)|refine zA ?_|(refine zB ?_;intro K hK)|(refine zC ?_ ?_<;>(try refine zH ?_)<;>intro hcond<;>try exact zX)|fail)
     simp [Rets, aret, Blk.cells, ty, Try.results22, ares, toT1, toT, borrow, borrow0, capCell, toTree0, tint, tbool]
 ·simp only [bswL, List.take_succ_cons, List.take_zero, List.drop_succ_cons, List.drop_zero, List.cons_append, List.nil_append, Nat.reduceMul]
  repeat' (first|((first|(refine zT ?_;intro K' hK')|(refine zG ?_ ?_<;>(try refine zH ?_)<;>intro hguard<;>(try exact zX)<;>try intro K' hK'))<;>((try simp +contextual only [go_sem, made_bools, Int.toNat_natCast, Nat.mul_one]);(repeat' first|(with_reducible refine hK' _ _ ?_;clear hK' K')|exact zY|with_reducible refine And.intro ?_ ?_|(with_reducible intro hpath;try exact zP)|(refine hK' _ _ ?_;clear hK' K')|fail);try refine zS ?_))|(refine zE ?_;refine hK _ _ ?_;clear hK K)|(refine zN ?_;try refine zS ?_)|refine zA ?_|(refine zB ?_;intro K hK)|(refine zC ?_ ?_<;>(try refine zH ?_)<;>intro hcond<;>try exact zX)|fail)
  rw [inK_zero set true n]
  have hzz : inK set true n 0 = inK set false n 0 := by rw [← inK_zero, ← inK_zero]
  refine AWp.loopS (α:=Nat) 66 (fun v=>[(1,.c (.slice (iRows set) .none)),(2,.c (.rptr [.int .i64 (n : Int), .slice (eRows es)])),(8,.c (.ref 2 1 0 n n)),(9,.c (.ref 1 1 0 n n)),(30,.c (.int .i64 (n : Int))),(31,.c (.int .i64 (v : Int)))]) (fun v=>[.ro [.int .i64 (n : Int), .slice (eRows es)], .box (bC (inK set true n v)), .box (bC (inK set false n v))]) (fun v=>v ≤ n) (fun v=>n - v) (0) (hk:=Weak.headL 3 66 [1, 2, 8, 9, 30, 31] (by (repeat' (first | exact valsIn_nil _ | exact blksIn_nil _ | exact cellsIn_nil _ | refine And.intro ?_ ?_ | refine valsIn_cons ?_ ?_ | refine blksIn_cons ?_ ?_ | refine cellsIn_cons ?_ ?_ | exact True.intro | exact fC_in | exact bC_in | (show _ < _; omega) | exact cellsIn_map (fun _ => True.intro) | (intro c hc; cases hc; done) | (intro c hc; simp only [List.mem_cons, List.not_mem_nil, or_false] at hc; subst hc; exact True.intro) | (intro c hc; simp only [List.mem_cons, List.not_mem_nil, or_false] at hc; rcases hc with rfl | rfl <;> exact True.intro))))) (h0:=?_) (round:=fun v hI=>?_)
  ·exact Nat.zero_le _
  ·have hv : v ≤ n := hI
   clear hI
   by_cases hvl : v < n
   ·have hvI : (v : Int) < (n : Int) := by omega
    have hCo := Contains_ok set (v : Int) hl
    have s1 := inK_set set false n v
    have s2 := inK_set set true n v
    have l1 := inK_len set false n v
    have l2 := inK_len set true n v
    have l3 := inK_len set false n (v + 1)
    rw [Bool.false_xor] at s1
    rw [Bool.true_xor] at s2
    generalize decide ((v : Int) ∈ set) = c at *
    have q1 := bC_set (inK set false n v) v c
    have q2 := bC_set (inK set true n v) v (!c)
    rw [s1] at q1
    rw [s2] at q2
    have g1 : (bC (inK set false n (v + 1)))[v]? = some (.bool c) := by rw [← q1]; exact List.getElem?_set_self (by rw [bC_len, l1]; omega)
    generalize inK set false n v = X at *
    generalize inK set true n v = Y at *
    repeat' (first|((first|(refine zT ?_;intro K' hK')|(refine zG ?_ ?_<;>(try refine zH ?_)<;>intro hguard<;>(try exact zX)<;>try intro K' hK'))<;>((try simp +contextual only [go_sem, hvI, l1, l2, l3, q1, q2, g1, bC_len, Int.toNat_natCast, Nat.mul_one]);(repeat' first|(with_reducible refine hK' _ _ ?_;clear hK' K')|(with_reducible refine zK hCo ?_;try simp +contextual only [go_sem, hvI, l1, l2, l3, q1, q2, g1, bC_len, Int.toNat_natCast, Nat.mul_one])|exact zY|with_reducible refine And.intro ?_ ?_|(with_reducible intro hpath;try exact zP)|(refine hK' _ _ ?_;clear hK' K')|fail);try refine zS ?_))|(refine zE ?_;refine hK _ _ ?_;clear hK K)|(refine zN ?_;try refine zS ?_)|refine zA ?_|(refine zB ?_;intro K hK)|(refine zC ?_ ?_<;>(try refine zH ?_)<;>intro hcond<;>try exact zX)|fail)
    refine ⟨v + 1,Weak.headN 3 66 [1, 2, 8, 9, 30, 31] (by (repeat' (first | exact valsIn_nil _ | exact blksIn_nil _ | exact cellsIn_nil _ | refine And.intro ?_ ?_ | refine valsIn_cons ?_ ?_ | refine blksIn_cons ?_ ?_ | refine cellsIn_cons ?_ ?_ | exact True.intro | exact fC_in | exact bC_in | (show _ < _; omega) | exact cellsIn_map (fun _ => True.intro) | (intro c hc; cases hc; done) | (intro c hc; simp only [List.mem_cons, List.not_mem_nil, or_false] at hc; subst hc; exact True.intro) | (intro c hc; simp only [List.mem_cons, List.not_mem_nil, or_false] at hc; rcases hc with rfl | rfl <;> exact True.intro)))),?_,?_⟩
    ·exact hvl
    ·omega
   ·have hnl : ¬ (v : Int) < (n : Int) := by omega
    have ev : v = n := by omega
    subst ev
    have r1 : inK set false v v = inR set false v := rfl
    have r2 : inK set true v v = inR set true v := rfl
    rw [r1, r2]
    have t1 : (inR set false v).length = v := inK_len _ _ _ _
    have t2 : (inR set true v).length = v := inK_len _ _ _ _
    generalize inR set false v = X at *
    generalize inR set true v = Y at *
    repeat' ((fail_if_success (with_reducible refine AWp.atSeq 15 ?_));(fail_if_success (with_reducible refine AWp.atLast 15 ?_));first|((first|(refine zT ?_;intro K' hK')|(refine zG ?_ ?_<;>(try refine zH ?_)<;>intro hguard<;>(try exact zX)<;>try intro K' hK'))<;>((try simp +contextual only [go_sem, hnl, fC_len, fC_free, hof, hst, hlF]);(repeat' first|(with_reducible refine hK' _ _ ?_;clear hK' K')|(with_reducible refine zK hJ ?_;try simp +contextual only [go_sem, hnl, fC_len, fC_free, hof, hst, hlF])|exact zY|with_reducible refine And.intro ?_ ?_|(with_reducible intro hpath;try exact zP)|(refine hK' _ _ ?_;clear hK' K')|fail);try refine zS ?_))|(refine zE ?_;refine hK _ _ ?_;clear hK K)|(refine zN ?_;try refine zS ?_)|refine zA ?_|(refine zB ?_;intro K hK)|(refine zC ?_ ?_<;>(try refine zH ?_)<;>intro hcond<;>try exact zX)|fail)
    refine AWp.freezeP 11 3 rfl rfl (fC_trees F) ?_
    simp only [List.set_cons_succ, List.set_cons_zero]
    generalize wholeB es v X = w1 at *
    generalize wholeB es v Y = w2 at *
    by_cases hp : (partsV F v).length = 1
    ·have hpI : ((partsV F v).length : Int) = 1 := by omega
     rw [decide_eq_true hp, Bool.true_and]
     cases w1
     ·
      repeat' (first|((first|(refine zT ?_;intro K' hK')|(refine zG ?_ ?_<;>(try refine zH ?_)<;>intro hguard<;>(try exact zX)<;>try intro K' hK'))<;>((try simp +contextual only [go_sem, hpI, llRows_len]);(repeat' first|(with_reducible refine hK' _ _ ?_;clear hK' K')|((with_reducible first|refine zK hP ?_|refine ⟨_,_,hw1 _ _ rfl,?_⟩|refine ⟨_,hw1 _ _ rfl,?_⟩);try simp +contextual only [go_sem, hpI, llRows_len])|exact zY|with_reducible refine And.intro ?_ ?_|(with_reducible intro hpath;try exact zP)|(refine hK' _ _ ?_;clear hK' K')|fail);try refine zS ?_))|(refine zE ?_;refine hK _ _ ?_;clear hK K)|(refine zN ?_;try refine zS ?_)|refine zA ?_|(refine zB ?_;intro K hK)|(refine zC ?_ ?_<;>(try refine zH ?_)<;>intro hcond<;>try exact zX)|fail)
      simp [Rets, aret, Blk.cells, ty, Try.results22, ares, toT1, toT, borrow, borrow0, capCell, toTree0, tint, tbool]
     ·cases w2
      ·
       repeat' (first|((first|(refine zT ?_;intro K' hK')|(refine zG ?_ ?_<;>(try refine zH ?_)<;>intro hguard<;>(try exact zX)<;>try intro K' hK'))<;>((try simp +contextual only [go_sem, hpI, llRows_len]);(repeat' first|(with_reducible refine hK' _ _ ?_;clear hK' K')|((with_reducible first|refine zK hP ?_|refine ⟨_,_,hw1 _ _ rfl,?_⟩|refine ⟨_,hw1 _ _ rfl,?_⟩|refine ⟨_,_,hw2 _ _ rfl,?_⟩|refine ⟨_,hw2 _ _ rfl,?_⟩);try simp +contextual only [go_sem, hpI, llRows_len])|exact zY|with_reducible refine And.intro ?_ ?_|(with_reducible intro hpath;try exact zP)|(refine hK' _ _ ?_;clear hK' K')|fail);try refine zS ?_))|(refine zE ?_;refine hK _ _ ?_;clear hK K)|(refine zN ?_;try refine zS ?_)|refine zA ?_|(refine zB ?_;intro K hK)|(refine zC ?_ ?_<;>(try refine zH ?_)<;>intro hcond<;>try exact zX)|fail)
       simp [Rets, aret, Blk.cells, ty, Try.results22, ares, toT1, toT, borrow, borrow0, capCell, toTree0, tint, tbool]
      ·
       repeat' (first|((first|(refine zT ?_;intro K' hK')|(refine zG ?_ ?_<;>(try refine zH ?_)<;>intro hguard<;>(try exact zX)<;>try intro K' hK'))<;>((try simp +contextual only [go_sem, hpI, llRows_len]);(repeat' first|(with_reducible refine hK' _ _ ?_;clear hK' K')|((with_reducible first|refine zK hP ?_|refine ⟨_,_,hw1 _ _ rfl,?_⟩|refine ⟨_,hw1 _ _ rfl,?_⟩|refine ⟨_,_,hw2 _ _ rfl,?_⟩|refine ⟨_,hw2 _ _ rfl,?_⟩);try simp +contextual only [go_sem, hpI, llRows_len])|exact zY|with_reducible refine And.intro ?_ ?_|(with_reducible intro hpath;try exact zP)|(refine hK' _ _ ?_;clear hK' K')|fail);try refine zS ?_))|(refine zE ?_;refine hK _ _ ?_;clear hK K)|(refine zN ?_;try refine zS ?_)|refine zA ?_|(refine zB ?_;intro K hK)|(refine zC ?_ ?_<;>(try refine zH ?_)<;>intro hcond<;>try exact zX)|fail)
       simp [Rets, aret, Blk.cells, ty, Try.results22, ares, toT1, toT, borrow, borrow0, capCell, toTree0, tint, tbool]
    ·have hpI : ¬ ((partsV F v).length : Int) = 1 := by omega
     rw [decide_eq_false hp, Bool.false_and, Bool.false_and]
     repeat' (first|((first|(refine zT ?_;intro K' hK')|(refine zG ?_ ?_<;>(try refine zH ?_)<;>intro hguard<;>(try exact zX)<;>try intro K' hK'))<;>((try simp +contextual only [go_sem, hpI, llRows_len]);(repeat' first|(with_reducible refine hK' _ _ ?_;clear hK' K')|(with_reducible refine zK hP ?_;try simp +contextual only [go_sem, hpI, llRows_len])|exact zY|with_reducible refine And.intro ?_ ?_|(with_reducible intro hpath;try exact zP)|(refine hK' _ _ ?_;clear hK' K')|fail);try refine zS ?_))|(refine zE ?_;refine hK _ _ ?_;clear hK K)|(refine zN ?_;try refine zS ?_)|refine zA ?_|(refine zB ?_;intro K hK)|(refine zC ?_ ?_<;>(try refine zH ?_)<;>intro hcond<;>try exact zX)|fail)
     simp [Rets, aret, Blk.cells, ty, Try.results22, ares, toT1, toT, borrow, borrow0, capCell, toTree0, tint, tbool]
theorem filter_zero {n : Nat} (h : 1 ≤ n) : (List.range n).filter (fun h => decide (h = 0)) = [0] := by
 obtain ⟨k, rfl⟩ : ∃ k, n = k + 1 := ⟨n - 1, by omega⟩
 rw [List.range_succ_eq_map, List.filter_cons, if_pos (by simp)]
 rw [List.filter_eq_nil_iff.2]
 intro a ha
 obtain ⟨b, _, rfl⟩ := List.mem_map.1 ha
 simp
open Classical in
theorem connB_iff {g : G} {n : Nat} (hc : checkG g = 0) (hn : g.n = n) : connB g = true ↔ ∀ u w, u < n → w < n → Conn (endsL g.es) u w := by
 have h12 := (checkG_zero.1 hc).1
 rw [conn_parts hc hn, decide_eq_true_eq]
 constructor
 ·intro h u w hu hw
  exact ncls_one (conn_eqv n (endsL g.es)) h hu hw
 ·intro h
  unfold ncls
  have e : (List.range n).filter (fun x => decide (∀ y, y < n → Conn (endsL g.es) x y → x ≤ y)) = (List.range n).filter (fun h => decide (h = 0)) := List.filter_congr fun x hx => by
   refine decide_eq_decide.2 ⟨fun hx2 => ?_, fun hx2 => ?_⟩
   ·have := hx2 0 (by omega) (h x 0 (List.mem_range.1 hx) (by omega))
    omega
   ·subst hx2; intro y _ _; omega
  rw [e, filter_zero (by omega)]; rfl
theorem rwL_mem (F : List Nat) (R : List Bool) {r : Nat} : ∀ k, r ∈ rwL F R k ↔ ∃ v, v < k ∧ R.getD v false = true ∧ rootF F 12 v = r := by
 intro k
 induction k with
 | zero => simp [rwL]
 | succ k ih =>
  rw [rwL_succ]; unfold rwStep
  by_cases hk : R.getD k false = true
  ·rw [if_pos hk, insT_mem, ih]
   constructor
   ·rintro (⟨v, h1, h2, h3⟩ | rfl)
    ·exact ⟨v, by omega, h2, h3⟩
    ·exact ⟨k, by omega, hk, rfl⟩
   ·rintro ⟨v, h1, h2, h3⟩
    by_cases e : v = k
    ·subst e; exact .inr h3.symm
    ·exact .inl ⟨v, by omega, h2, h3⟩
  ·rw [if_neg hk, ih]
   constructor
   ·rintro ⟨v, h1, h2, h3⟩; exact ⟨v, by omega, h2, h3⟩
   ·rintro ⟨v, h1, h2, h3⟩
    by_cases e : v = k
    ·subst e; exact absurd h2 hk
    ·exact ⟨v, by omega, h2, h3⟩
theorem rwL_nodup (F : List Nat) (R : List Bool) : ∀ k, (rwL F R k).Nodup := by
 intro k
 induction k with
 | zero => exact List.nodup_nil
 | succ k ih =>
  rw [rwL_succ]; unfold rwStep
  split
  ·exact insT_nodup ih
  ·exact ih
theorem len_one {l : List Nat} (hn : l.Nodup) : l.length = 1 ↔ (∃ x, x ∈ l) ∧ ∀ x y, x ∈ l → y ∈ l → x = y := by
 constructor
 ·intro h
  match l, h with
  | [a], _ => exact ⟨⟨a, by simp⟩, fun x y hx hy => by simp at hx hy; rw [hx, hy]⟩
 ·rintro ⟨⟨x, hx⟩, h⟩
  match l, hn with
  | [], _ => cases hx
  | [a], _ => rfl
  | a :: b :: l, hn =>
   exfalso
   rw [List.nodup_cons] at hn
   exact hn.1 (by rw [h a b (by simp) (by simp)]; simp)
theorem whole_iff {g : G} {n : Nat} (hc : checkG g = 0) (hn : g.n = n) (R : List Bool) : wholeB g.es n R = true ↔ (∃ v, v < n ∧ R.getD v false = true) ∧ ∀ u w, u < n → w < n → R.getD u false = true → R.getD w false = true → Conn (wP g.es R) u w := by
 have h12 := (checkG_zero.1 hc).1
 have hl := wP_in12 hc R
 unfold wholeB
 rw [decide_eq_true_eq, len_one (rwL_nodup _ _ _)]
 constructor
 ·rintro ⟨⟨x, hx⟩, h⟩
  obtain ⟨v, h1, h2, h3⟩ := (rwL_mem _ _ n).1 hx
  refine ⟨⟨v, h1, h2⟩, fun u w hu hw ru rw' => (conn_root hl (by omega) (by omega)).2 ?_⟩
  exact h _ _ ((rwL_mem _ _ n).2 ⟨u, hu, ru, rfl⟩) ((rwL_mem _ _ n).2 ⟨w, hw, rw', rfl⟩)
 ·rintro ⟨⟨v, h1, h2⟩, h⟩
  refine ⟨⟨_, (rwL_mem _ _ n).2 ⟨v, h1, h2, rfl⟩⟩, fun x y hx hy => ?_⟩
  obtain ⟨a, a1, a2, rfl⟩ := (rwL_mem _ _ n).1 hx
  obtain ⟨b, b1, b2, rfl⟩ := (rwL_mem _ _ n).1 hy
  exact (conn_root hl (by omega) (by omega)).1 (h a b a1 b1 a2 b2)
theorem wP_mem {es : List E} {R : List Bool} {p : Int × Int} : p ∈ wP es R ↔ (∃ e, e ∈ es ∧ p = (e.a, e.b)) ∧ R.getD p.1.toNat false = true ∧ R.getD p.2.toNat false = true := by
 unfold wP pairsE
 rw [List.mem_filter, List.mem_map, Bool.and_eq_true]
 constructor
 ·rintro ⟨⟨e, he, rfl⟩, h⟩; exact ⟨⟨e, he, rfl⟩, h⟩
 ·rintro ⟨⟨e, he, rfl⟩, h⟩; exact ⟨⟨e, he, rfl⟩, h⟩
theorem joinE_ends {f : Nat → Nat → Int} {k : Nat} {p : Int × Int} : p ∈ endsL (joinE f k k) ↔ ∃ i j : Nat, i < k ∧ j < k ∧ i ≤ j ∧ 0 < f i j ∧ p = ((i : Int), (j : Int)) := by
 constructor
 ·intro h
  obtain ⟨e, he, rfl⟩ := endsL_mem h
  obtain ⟨i, j, h1, h2, h3, h4, rfl⟩ := joinE_mem.1 he
  exact ⟨i, j, h1, h2, h3, h4, rfl⟩
 ·rintro ⟨i, j, h1, h2, h3, h4, rfl⟩
  exact List.mem_flatMap.2 ⟨⟨i, j, f i j⟩, joinE_mem.2 ⟨i, j, h1, h2, h3, h4, rfl⟩, List.mem_replicate.2 ⟨by simp only; omega, rfl⟩⟩
structure IndS (g : G) (n : Nat) (l : List Int) (R : List Bool) : Prop where
 c : checkG g = 0
 n' : g.n = n
 r : ∀ x, x ∈ l → 0 ≤ x ∧ x < n
 m : ∀ v, v < n → (R.getD v false = true ↔ (v : Int) ∈ l)
def liN (l : List Int) (i : Nat) : Nat := (l.getD i 0).toNat
section
variable {g : G} {n : Nat} {l : List Int} {R : List Bool}
theorem IndS.at (h : IndS g n l R) {i : Nat} (hi : i < l.length) : l.getD i 0 = (liN l i : Int) ∧ liN l i < n ∧ R.getD (liN l i) false = true := by
 have hm : l.getD i 0 ∈ l := by rw [List.getD_eq_getElem?_getD, List.getElem?_eq_getElem hi]; exact List.getElem_mem hi
 have h1 := h.r _ hm
 have e : l.getD i 0 = (liN l i : Int) := by unfold liN; omega
 exact ⟨e, by omega, (h.m _ (by omega)).2 (by rw [← e]; exact hm)⟩
theorem IndS.pos (h : IndS g n l R) {i j : Nat} (hi : i < l.length) (hj : j < l.length) : 0 < pairF g.es l i j ↔ ∃ e, e ∈ g.es ∧ ((e.a = (liN l i : Int) ∧ e.b = (liN l j : Int)) ∨ (e.a = (liN l j : Int) ∧ e.b = (liN l i : Int))) := by
 have hok := (checkG_zero.1 h.c).2.1
 unfold pairF
 rw [cntL_pos (fun e he => by have := hok e he; unfold okE at this; omega), (h.at hi).1, (h.at hj).1]
 constructor
 ·rintro ⟨e, he, h1, h2⟩
  exact ⟨e, he, by omega⟩
 ·rintro ⟨e, he, h1⟩
  have := hok e he
  unfold okE at this
  exact ⟨e, he, by omega, by omega⟩
theorem IndS.fwd (h : IndS g n l R) {i j : Nat} (hi : i < l.length) (hc : Conn (endsL (joinE (pairF g.es l) l.length l.length)) i j) : j < l.length ∧ Conn (wP g.es R) (liN l i) (liN l j) := by
 induction hc with
 | refl => exact ⟨hi, .refl⟩
 | step _ hs ih =>
  rename_i b c _
  obtain ⟨hb, ih⟩ := ih
  have key : ∀ x y : Nat, ((x : Int), (y : Int)) ∈ endsL (joinE (pairF g.es l) l.length l.length) → x < l.length ∧ y < l.length ∧ (((liN l x : Int), (liN l y : Int)) ∈ wP g.es R ∨ ((liN l y : Int), (liN l x : Int)) ∈ wP g.es R) := fun x y hxy => by
   obtain ⟨i', j', h1, h2, h3, h4, h5⟩ := joinE_ends.1 hxy
   have ex : x = i' := by have := congrArg Prod.fst h5; simp at this; omega
   have ey : y = j' := by have := congrArg Prod.snd h5; simp at this; omega
   subst ex; subst ey
   obtain ⟨e, he, h6⟩ := (h.pos h1 h2).1 h4
   have a1 := h.at h1
   have a2 := h.at h2
   refine ⟨h1, h2, ?_⟩
   rcases h6 with ⟨e1, e2⟩ | ⟨e1, e2⟩
   ·exact .inl (wP_mem.2 ⟨⟨e, he, by rw [e1, e2]⟩, by simpa using a1.2.2, by simpa using a2.2.2⟩)
   ·exact .inr (wP_mem.2 ⟨⟨e, he, by rw [e1, e2]⟩, by simpa using a2.2.2, by simpa using a1.2.2⟩)
  rcases hs with hs | hs
  ·obtain ⟨_, h2, h3⟩ := key b c hs
   exact ⟨h2, ih.trans (Conn.one h3)⟩
  ·obtain ⟨h1, _, h3⟩ := key c b hs
   exact ⟨h1, ih.trans (Conn.one h3.symm)⟩
theorem IndS.bwd (h : IndS g n l R) {i : Nat} (hi : i < l.length) {w : Nat} (hc : Conn (wP g.es R) (liN l i) w) : ∃ j, j < l.length ∧ liN l j = w ∧ Conn (endsL (joinE (pairF g.es l) l.length l.length)) i j := by
 have hok := (checkG_zero.1 h.c).2.1
 induction hc with
 | refl => exact ⟨i, hi, rfl, .refl⟩
 | step _ hs ih =>
  rename_i b c _
  obtain ⟨j, hj, rfl, hcn⟩ := ih
  have key : ∃ e, e ∈ g.es ∧ ((e.a = (liN l j : Int) ∧ e.b = (c : Int)) ∨ (e.a = (c : Int) ∧ e.b = (liN l j : Int))) ∧ R.getD c false = true ∧ c < n := by
   rcases hs with hs | hs
   ·obtain ⟨⟨e, he, hp⟩, h1, h2⟩ := wP_mem.1 hs
    have e1 := congrArg Prod.fst hp
    have e2 := congrArg Prod.snd hp
    simp only at e1 e2 h2
    have := hok e he
    have hn := h.n'
    unfold okE at this
    exact ⟨e, he, .inl ⟨e1.symm, e2.symm⟩, by simpa using h2, by omega⟩
   ·obtain ⟨⟨e, he, hp⟩, h1, h2⟩ := wP_mem.1 hs
    have e1 := congrArg Prod.fst hp
    have e2 := congrArg Prod.snd hp
    simp only at e1 e2 h1
    have := hok e he
    have hn := h.n'
    unfold okE at this
    exact ⟨e, he, .inr ⟨e1.symm, e2.symm⟩, by simpa using h1, by omega⟩
  obtain ⟨e, he, hab, hR, hcn2⟩ := key
  have hm := (h.m c hcn2).1 hR
  obtain ⟨j', hj', e'⟩ := List.mem_iff_getElem.1 hm
  have hl' : liN l j' = c := by unfold liN; rw [List.getD_eq_getElem?_getD, List.getElem?_eq_getElem hj']; simp [e']
  refine ⟨j', hj', hl', hcn.trans (Conn.one ?_)⟩
  rw [← hl'] at hab
  rcases Nat.le_total j j' with hle | hle
  ·exact .inl (joinE_ends.2 ⟨j, j', hj, hj', hle, (h.pos hj hj').2 ⟨e, he, hab⟩, rfl⟩)
  ·exact .inr (joinE_ends.2 ⟨j', j, hj', hj, hle, (h.pos hj' hj).2 ⟨e, he, hab.symm⟩, rfl⟩)
theorem IndS.check (h : IndS g n l R) (hne : l ≠ []) (hl : l.length ≤ 12) : checkG ⟨l.length, joinE (pairF g.es l) l.length l.length⟩ = 0 := by
 have hok := (checkG_zero.1 h.c).2.1
 refine checkG_zero.2 ⟨?_, fun e he => ?_, joinE_sorted _ _ _⟩
 ·have := List.length_pos_iff.2 hne
  simp only; omega
 ·obtain ⟨i, j, h1, h2, h3, h4, rfl⟩ := joinE_mem.1 he
  have := (cnt_bound h.c (min (l.getD i 0) (l.getD j 0)) (max (l.getD i 0) (l.getD j 0))).2
  unfold okE
  unfold pairF at h4 ⊢
  simp only; omega
theorem IndS.same (h : IndS g n l R) {i j : Nat} (hi : i < l.length) (hj : j < l.length) (e : liN l i = liN l j) (hs : l.Pairwise (· < ·)) : i = j := by
 have h1 := (h.at hi).1
 have h2 := (h.at hj).1
 rw [List.getD_eq_getElem?_getD, List.getElem?_eq_getElem hi] at h1
 rw [List.getD_eq_getElem?_getD, List.getElem?_eq_getElem hj] at h2
 simp only [Option.getD_some] at h1 h2
 rw [List.pairwise_iff_getElem] at hs
 rcases Nat.lt_trichotomy i j with q | q | q
 ·have := hs i j hi hj q; omega
 ·exact q
 ·have := hs j i hj hi q; omega
theorem IndS.whole (h : IndS g n l R) (hs : l.Pairwise (· < ·)) (hl : l.length ≤ 12) : wholeB g.es n R = (decide (l ≠ []) && connB ⟨l.length, joinE (pairF g.es l) l.length l.length⟩) := by
 rw [Bool.eq_iff_iff, whole_iff h.c h.n', Bool.and_eq_true, decide_eq_true_eq]
 constructor
 ·rintro ⟨⟨v, hv, hR⟩, hall⟩
  have hm := (h.m v hv).1 hR
  have hne : l ≠ [] := fun e => by rw [e] at hm; cases hm
  refine ⟨hne, (connB_iff (h.check hne hl) rfl).2 fun i j hi hj => ?_⟩
  obtain ⟨_, a2, a3⟩ := h.at hi
  obtain ⟨_, b2, b3⟩ := h.at hj
  obtain ⟨j', hj', e', hc⟩ := h.bwd hi (hall _ _ a2 b2 a3 b3)
  have e := h.same hj' hj e' hs
  rw [← e]; exact hc
 ·rintro ⟨hne, hcn⟩
  have hcn := (connB_iff (h.check hne hl) rfl).1 hcn
  have h0 : 0 < l.length := List.length_pos_iff.2 hne
  refine ⟨⟨_, (h.at h0).2.1, (h.at h0).2.2⟩, fun u w hu hw ru rw' => ?_⟩
  obtain ⟨i, hi, ei⟩ := List.mem_iff_getElem.1 ((h.m u hu).1 ru)
  obtain ⟨j, hj, ej⟩ := List.mem_iff_getElem.1 ((h.m w hw).1 rw')
  have eu : liN l i = u := by unfold liN; rw [List.getD_eq_getElem?_getD, List.getElem?_eq_getElem hi]; simp [ei]
  have ew : liN l j = w := by unfold liN; rw [List.getD_eq_getElem?_getD, List.getElem?_eq_getElem hj]; simp [ej]
  rw [← eu, ← ew]
  exact (h.fwd hi (hcn i j hi hj)).2
end
end Go.Proofs.Ytgklecfiflhjmaa
