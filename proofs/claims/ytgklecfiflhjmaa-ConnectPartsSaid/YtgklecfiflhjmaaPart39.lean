/- A part of the proof. -/
import Derived.Test.YtgklecfiflhjmaaPart38
import Derived.Test.YtgklecfiflhjmaaLayerD
import Derived.Test.YtgklecfiflhjmaaLayerC
import Derived.Test.YtgklecfiflhjmaaPart25
set_option linter.all false
set_option maxHeartbeats 4000000
set_option maxRecDepth 100000
namespace Go.Proofs.Ytgklecfiflhjmaa
open Go.Sp
theorem bC_in {m : Nat} {F : List Bool} : Go.Sp.cellsIn m (bC F) := cellsIn_map fun _ => True.intro
def inK (set : List Int) (neg : Bool) (n k : Nat) : List Bool := (List.range n).map fun u => decide (u < k) && xor neg (decide ((u : Int) ∈ set))
theorem inK_len (set : List Int) (neg : Bool) (n k : Nat) : (inK set neg n k).length = n := by simp [inK]
theorem inK_zero (set : List Int) (neg : Bool) (n : Nat) : List.replicate n false = inK set neg n 0 := by
 unfold inK
 rw [eq_comm, List.eq_replicate_iff]
 exact ⟨by simp, fun x hx => by obtain ⟨u, _, rfl⟩ := List.mem_map.1 hx; simp⟩
theorem inK_get (set : List Int) (neg : Bool) {n i : Nat} (k : Nat) (h : i < n) : (inK set neg n k)[i]? = some (decide (i < k) && xor neg (decide ((i : Int) ∈ set))) := by
 unfold inK; rw [List.getElem?_map, List.getElem?_range h]; rfl
theorem inK_set (set : List Int) (neg : Bool) (n k : Nat) : (inK set neg n k).set k (xor neg (decide ((k : Int) ∈ set))) = inK set neg n (k + 1) := by
 apply List.ext_getElem?
 intro i
 by_cases hi : i < n
 ·rw [inK_get set neg (k + 1) hi]
  by_cases e : k = i
  ·subst e
   rw [List.getElem?_set_self (by rw [inK_len]; exact hi), decide_eq_true (by omega : k < k + 1), Bool.true_and]
  ·rw [List.getElem?_set_ne e, inK_get set neg k hi]
   by_cases h : i < k
   ·rw [decide_eq_true h, decide_eq_true (by omega : i < k + 1)]
   ·rw [decide_eq_false h, decide_eq_false (by omega : ¬ i < k + 1)]
 ·rw [List.getElem?_eq_none (by rw [List.length_set, inK_len]; omega), List.getElem?_eq_none (by rw [inK_len]; omega)]
def inR (set : List Int) (neg : Bool) (n : Nat) : List Bool := inK set neg n n
def bondB (g : G) (set : List Int) : Bool := decide ((partsV (genS (pairsE g.es)).1 g.n.toNat).length = 1) && wholeB g.es g.n.toNat (inR set false g.n.toNat) && wholeB g.es g.n.toNat (inR set true g.n.toNat)
theorem wh_call (n : Nat) (es : List E) (R : List Bool) (hc : checkG ⟨n, es⟩ = 0) (hR : R.length = n) (hl : es.length ≤ 40) {H : List Blk} {id : Nat} (hid : H[id]? = some (.box (bC R))) :
  ACallH Try.prog 60 H [.agg [.int .i64 (n : Int), .slice (eRows es) .none], .c (.ref id 1 0 n n)] H (.c (.bool (wholeB es n R))) := by
 have h := whole_ok ⟨n, es⟩ n R hc rfl hR hl
 refine ACall.hb h ?_ rfl
 have hb := bC_ref (H := H) hR hid
 simp [toT, tG, tbools, borrow, borrow0, toTree0] at hb ⊢
 rw [hb]; rfl
theorem Bond_ok (g : G) (set : List Int) (hg : g.es.length ≤ 40) (hl : set.length < 2 ^ 40) : ACall Try.prog 22 [tG g, tints set] (.tup [tbool (decide (subG g set = 0) && bondB g set), tint (subG g set)]) := by
 have hC := Check_ok g (by omega)
 have hS := Subset_ok g set (by omega) hl
 by_cases hc : checkG g = 0
 case neg =>
  have e : subG g set = checkG g := by unfold subG; rw [if_pos hc]
  rw [e, decide_eq_false hc, Bool.false_and]
  generalize checkG g = E at *
  obtain ⟨n, es⟩ := g
  refine ACall.of_body Try.func22 rfl (by kernel_rfl) ?_
  simp only [entry, Try.ntmps22, tG, tints]
  refine zU ?_
  refine zR (zc @hc trivial) (zc hC trivial) trivial ?_
  simp [Rets, aret, Blk.cells, ty, Try.results22, ares, toT1, toT, borrow, borrow0, capCell, toTree0, tint, tbool]
 by_cases h0 : subG g set = 0
 case neg =>
  rw [decide_eq_false h0, Bool.false_and]
  rw [hc] at hC
  generalize subG g set = E at *
  obtain ⟨n, es⟩ := g
  refine ACall.of_body Try.func22 rfl (by kernel_rfl) ?_
  simp only [entry, Try.ntmps22, tG, tints]
  refine zU ?_
  refine zR (zc @h0 trivial) (zc hC (zc hS trivial)) trivial ?_
  simp [Rets, aret, Blk.cells, ty, Try.results22, ares, toT1, toT, borrow, borrow0, capCell, toTree0, tint, tbool]
 rw [decide_eq_true h0, Bool.true_and, h0]
 rw [hc] at hC
 rw [h0] at hS
 have hJ := cjoined_ok g hc (by omega)
 have hF := (uf _ (pairs_in12 hc)).ok
 have h12 := (checkG_zero.1 hc).1
 unfold bondB
 obtain ⟨nI, es⟩ := g
 simp only at h12 hg hJ hF ⊢
 obtain ⟨n, rfl⟩ := Int.eq_ofNat_of_zero_le (show 0 ≤ nI by omega)
 simp only [Int.toNat_natCast] at *
 have hlF := hF.len
 have hP := cpartsR_ok _ hF n (by omega) (by omega)
 unfold tF at hJ
 generalize (genS (pairsE es)).1 = F at *
 have hof : (fT F).map ofTree = fC F := fT_of F
 have hst := fC_store zero12 F (by rw [hlF]; rfl)
 have hz : fC zero12 = [.int .i64 0, .int .i64 0, .int .i64 0, .int .i64 0, .int .i64 0, .int .i64 0, .int .i64 0, .int .i64 0, .int .i64 0, .int .i64 0, .int .i64 0, .int .i64 0] := rfl
 rw [hz] at hst
 have hw1 := fun (H : List Blk) (id : Nat) (hid : H[id]? = some (.box (bC (inR set false n)))) => wh_call n es (inR set false n) hc (inK_len _ _ _ _) hg hid
 have hw2 := fun (H : List Blk) (id : Nat) (hid : H[id]? = some (.box (bC (inR set true n)))) => wh_call n es (inR set true n) hc (inK_len _ _ _ _) hg hid
 refine ACall.of_body Try.func22 rfl (by kernel_rfl) ?_
 simp only [entry, Try.ntmps22, tG, tints]
 refine zU ?_
 repeat' ((fail_if_success (with_reducible refine AWp.atSeq 7 ?_));(fail_if_success (with_reducible refine AWp.atLast 7 ?_));first|((first|(refine zT ?_;intro K' hK')|(refine zG ?_ ?_<;>(try refine zH ?_)<;>intro hguard<;>(try exact zX)<;>try intro K' hK'))<;>((try simp +contextual only [go_sem]);(repeat' first|(with_reducible refine hK' _ _ ?_;clear hK' K')|((with_reducible first|refine zK hC ?_|refine zK hS ?_);try simp +contextual only [go_sem])|exact zY|with_reducible refine And.intro ?_ ?_|(with_reducible intro hpath;try exact zP)|(refine hK' _ _ ?_;clear hK' K')|fail);try refine zS ?_))|(refine zE ?_;refine hK _ _ ?_;clear hK K)|(refine zN ?_;try refine zS ?_)|refine zA ?_|(refine zB ?_;intro K hK)|(refine zC ?_ ?_<;>(try refine zH ?_)<;>intro hcond<;>try exact zX)|fail)
 refine AWp.freezeP 2 0 rfl rfl (ts := [.int .i64 (n : Int), .slice (eRows es)]) rfl ?_
 simp only [List.set_cons_succ, List.set_cons_zero]
 refine AWp.seq_draw2b (wd := true) 3 2 5 (by decide +kernel) (fun K hK => ?_) (fun K hK => ?_)
 ·
  repeat' (first|((first|(refine zT ?_;intro K' hK')|(refine zG ?_ ?_<;>(try refine zH ?_)<;>intro hguard<;>(try exact zX)<;>try intro K' hK'))<;>((try simp +contextual only [go_sem, made_bools, Int.toNat_natCast, Nat.mul_one]);(repeat' first|(with_reducible refine hK' _ _ ?_;clear hK' K')|exact zY|with_reducible refine And.intro ?_ ?_|(with_reducible intro hpath;try exact zP)|(refine hK' _ _ ?_;clear hK' K')|fail);try refine zS ?_))|(refine zE ?_;refine hK _ _ ?_;clear hK K)|(refine zN ?_;try refine zS ?_)|refine zA ?_|(refine zB ?_;intro K hK)|(refine zC ?_ ?_<;>(try refine zH ?_)<;>intro hcond<;>try exact zX)|fail)
  rw [inK_zero set false n]
  have hzz : inK set false n 0 = inK set true n 0 := by rw [← inK_zero, ← inK_zero]
  refine AWp.loopS (α:=Nat) 66 (fun v=>[(1,.c (.slice (iRows set) .none)),(2,.c (.rptr [.int .i64 (n : Int), .slice (eRows es)])),(8,.c (.ref 1 1 0 n n)),(9,.c (.ref 2 1 0 n n)),(30,.c (.int .i64 (n : Int))),(31,.c (.int .i64 (v : Int)))]) (fun v=>[.ro [.int .i64 (n : Int), .slice (eRows es)], .box (bC (inK set false n v)), .box (bC (inK set true n v))]) (fun v=>v ≤ n) (fun v=>n - v) (0) (hk:=Weak.headL 3 66 [1, 2, 8, 9, 30, 31] (by (repeat' (first | exact valsIn_nil _ | exact blksIn_nil _ | exact cellsIn_nil _ | refine And.intro ?_ ?_ | refine valsIn_cons ?_ ?_ | refine blksIn_cons ?_ ?_ | refine cellsIn_cons ?_ ?_ | exact True.intro | exact fC_in | exact bC_in | (show _ < _; omega) | exact cellsIn_map (fun _ => True.intro) | (intro c hc; cases hc; done) | (intro c hc; simp only [List.mem_cons, List.not_mem_nil, or_false] at hc; subst hc; exact True.intro) | (intro c hc; simp only [List.mem_cons, List.not_mem_nil, or_false] at hc; rcases hc with rfl | rfl <;> exact True.intro))))) (h0:=?_) (round:=fun v hI=>?_)
  ·exact Nat.zero_le _
  ·have hv : v ≤ n := hI
   clear hI
   by_cases hvl : v < n
   ·have hvI : (v : Int) < (n : Int) := by omega
    have hCo := Contains_ok set (v : Int) hl
    have s1 := inK_set set false n v
    have s2 := inK_set set true n v
    have l1 := inK_len set false n v
    have l2 := inK_len set true n v
    have l3 := inK_len set false n (v + 1)
    rw [Bool.false_xor] at s1
    rw [Bool.true_xor] at s2
    generalize decide ((v : Int) ∈ set) = c at *
    have q1 := bC_set (inK set false n v) v c
    have q2 := bC_set (inK set true n v) v (!c)
    rw [s1] at q1
    rw [s2] at q2
    have g1 : (bC (inK set false n (v + 1)))[v]? = some (.bool c) := by rw [← q1]; exact List.getElem?_set_self (by rw [bC_len, l1]; omega)
    generalize inK set false n v = X at *
    generalize inK set true n v = Y at *
    repeat' (first|((first|(refine zT ?_;intro K' hK')|(refine zG ?_ ?_<;>(try refine zH ?_)<;>intro hguard<;>(try exact zX)<;>try intro K' hK'))<;>((try simp +contextual only [go_sem, hvI, l1, l2, l3, q1, q2, g1, bC_len, Int.toNat_natCast, Nat.mul_one]);(repeat' first|(with_reducible refine hK' _ _ ?_;clear hK' K')|(with_reducible refine zK hCo ?_;try simp +contextual only [go_sem, hvI, l1, l2, l3, q1, q2, g1, bC_len, Int.toNat_natCast, Nat.mul_one])|exact zY|with_reducible refine And.intro ?_ ?_|(with_reducible intro hpath;try exact zP)|(refine hK' _ _ ?_;clear hK' K')|fail);try refine zS ?_))|(refine zE ?_;refine hK _ _ ?_;clear hK K)|(refine zN ?_;try refine zS ?_)|refine zA ?_|(refine zB ?_;intro K hK)|(refine zC ?_ ?_<;>(try refine zH ?_)<;>intro hcond<;>try exact zX)|fail)
    refine ⟨v + 1,Weak.headN 3 66 [1, 2, 8, 9, 30, 31] (by (repeat' (first | exact valsIn_nil _ | exact blksIn_nil _ | exact cellsIn_nil _ | refine And.intro ?_ ?_ | refine valsIn_cons ?_ ?_ | refine blksIn_cons ?_ ?_ | refine cellsIn_cons ?_ ?_ | exact True.intro | exact fC_in | exact bC_in | (show _ < _; omega) | exact cellsIn_map (fun _ => True.intro) | (intro c hc; cases hc; done) | (intro c hc; simp only [List.mem_cons, List.not_mem_nil, or_false] at hc; subst hc; exact True.intro) | (intro c hc; simp only [List.mem_cons, List.not_mem_nil, or_false] at hc; rcases hc with rfl | rfl <;> exact True.intro)))),?_,?_⟩
    ·exact hvl
    ·omega
   ·have hnl : ¬ (v : Int) < (n : Int) := by omega
    have ev : v = n := by omega
    subst ev
    have r1 : inK set false v v = inR set false v := rfl
    have r2 : inK set true v v = inR set true v := rfl
    rw [r1, r2]
    have t1 : (inR set false v).length = v := inK_len _ _ _ _
    have t2 : (inR set true v).length = v := inK_len _ _ _ _
    generalize inR set false v = X at *
    generalize inR set true v = Y at *
    repeat' ((fail_if_success (with_reducible refine AWp.atSeq 15 ?_));(fail_if_success (with_reducible refine AWp.atLast 15 ?_));first|((first|(refine zT ?_;intro K' hK')|(refine zG ?_ ?_<;>(try refine zH ?_)<;>intro hguard<;>(try exact zX)<;>try intro K' hK'))<;>((try simp +contextual only [go_sem, hnl, fC_len, fC_free, hof, hst, hlF]);(repeat' first|(with_reducible refine hK' _ _ ?_;clear hK' K')|(with_reducible refine zK hJ ?_;try simp +contextual only [go_sem, hnl, fC_len, fC_free, hof, hst, hlF])|exact zY|with_reducible refine And.intro ?_ ?_|(with_reducible intro hpath;try exact zP)|(refine hK' _ _ ?_;clear hK' K')|fail);try refine zS ?_))|(refine zE ?_;refine hK _ _ ?_;clear hK K)|(refine zN ?_;try refine zS ?_)|refine zA ?_|(refine zB ?_;intro K hK)|(refine zC ?_ ?_<;>(try refine zH ?_)<;>intro hcond<;>try exact zX)|fail)
    refine AWp.freezeP 11 3 rfl rfl (fC_trees F) ?_
    simp only [List.set_cons_succ, List.set_cons_zero]
    generalize wholeB es v X = w1 at *
    generalize wholeB es v Y = w2 at *
    by_cases hp : (partsV F v).length = 1
    ·have hpI : ((partsV F v).length : Int) = 1 := by omega
     rw [decide_eq_true hp, Bool.true_and]
     cases w1
     ·
      repeat' (first|((first|(refine zT ?_;intro K' hK')|(refine zG ?_ ?_<;>(try refine zH ?_)<;>intro hguard<;>(try exact zX)<;>try intro K' hK'))<;>((try simp +contextual only [go_sem, hpI, llRows_len]);(repeat' first|(with_reducible refine hK' _ _ ?_;clear hK' K')|((with_reducible first|refine zK hP ?_|refine ⟨_,_,hw1 _ _ rfl,?_⟩|refine ⟨_,hw1 _ _ rfl,?_⟩);try simp +contextual only [go_sem, hpI, llRows_len])|exact zY|with_reducible refine And.intro ?_ ?_|(with_reducible intro hpath;try exact zP)|(refine hK' _ _ ?_;clear hK' K')|fail);try refine zS ?_))|(refine zE ?_;refine hK _ _ ?_;clear hK K)|(refine zN ?_;try refine zS ?_)|refine zA ?_|(refine zB ?_;intro K hK)|(refine zC ?_ ?_<;>(try refine zH ?_)<;>intro hcond<;>try exact zX)|fail)
      simp [Rets, aret, Blk.cells, ty, Try.results22, ares, toT1, toT, borrow, borrow0, capCell, toTree0, tint, tbool]
     ·cases w2
      ·
       repeat' (first|((first|(refine zT ?_;intro K' hK')|(refine zG ?_ ?_<;>(try refine zH ?_)<;>intro hguard<;>(try exact zX)<;>try intro K' hK'))<;>((try simp +contextual only [go_sem, hpI, llRows_len]);(repeat' first|(with_reducible refine hK' _ _ ?_;clear hK' K')|((with_reducible first|refine zK hP ?_|refine ⟨_,_,hw1 _ _ rfl,?_⟩|refine ⟨_,hw1 _ _ rfl,?_⟩|refine ⟨_,_,hw2 _ _ rfl,?_⟩|refine ⟨_,hw2 _ _ rfl,?_⟩);try simp +contextual only [go_sem, hpI, llRows_len])|exact zY|with_reducible refine And.intro ?_ ?_|(with_reducible intro hpath;try exact zP)|(refine hK' _ _ ?_;clear hK' K')|fail);try refine zS ?_))|(refine zE ?_;refine hK _ _ ?_;clear hK K)|(refine zN ?_;try refine zS ?_)|refine zA ?_|(refine zB ?_;intro K hK)|(refine zC ?_ ?_<;>(try refine zH ?_)<;>intro hcond<;>try exact zX)|fail)
       simp [Rets, aret, Blk.cells, ty, Try.results22, ares, toT1, toT, borrow, borrow0, capCell, toTree0, tint, tbool]
      ·
       repeat' (first|((first|(refine zT ?_;intro K' hK')|(refine zG ?_ ?_<;>(try refine zH ?_)<;>intro hguard<;>(try exact zX)<;>try intro K' hK'))<;>((try simp +contextual only [go_sem, hpI, llRows_len]);(repeat' first|(with_reducible refine hK' _ _ ?_;clear hK' K')|((with_reducible first|refine zK hP ?_|refine ⟨_,_,hw1 _ _ rfl,?_⟩|refine ⟨_,hw1 _ _ rfl,?_⟩|refine ⟨_,_,hw2 _ _ rfl,?_⟩|refine ⟨_,hw2 _ _ rfl,?_⟩);try simp +contextual only [go_sem, hpI, llRows_len])|exact zY|with_reducible refine And.intro ?_ ?_|(with_reducible intro hpath;try exact zP)|(refine hK' _ _ ?_;clear hK' K')|fail);try refine zS ?_))|(refine zE ?_;refine hK _ _ ?_;clear hK K)|(refine zN ?_;try refine zS ?_)|refine zA ?_|(refine zB ?_;intro K hK)|(refine zC ?_ ?_<;>(try refine zH ?_)<;>intro hcond<;>try exact zX)|fail)
       simp [Rets, aret, Blk.cells, ty, Try.results22, ares, toT1, toT, borrow, borrow0, capCell, toTree0, tint, tbool]
    ·have hpI : ¬ ((partsV F v).length : Int) = 1 := by omega
     rw [decide_eq_false hp, Bool.false_and, Bool.false_and]
     repeat' (first|((first|(refine zT ?_;intro K' hK')|(refine zG ?_ ?_<;>(try refine zH ?_)<;>intro hguard<;>(try exact zX)<;>try intro K' hK'))<;>((try simp +contextual only [go_sem, hpI, llRows_len]);(repeat' first|(with_reducible refine hK' _ _ ?_;clear hK' K')|(with_reducible refine zK hP ?_;try simp +contextual only [go_sem, hpI, llRows_len])|exact zY|with_reducible refine And.intro ?_ ?_|(with_reducible intro hpath;try exact zP)|(refine hK' _ _ ?_;clear hK' K')|fail);try refine zS ?_))|(refine zE ?_;refine hK _ _ ?_;clear hK K)|(refine zN ?_;try refine zS ?_)|refine zA ?_|(refine zB ?_;intro K hK)|(refine zC ?_ ?_<;>(try refine zH ?_)<;>intro hcond<;>try exact zX)|fail)
     simp [Rets, aret, Blk.cells, ty, Try.results22, ares, toT1, toT, borrow, borrow0, capCell, toTree0, tint, tbool]
 ·simp only [bswL, List.take_succ_cons, List.take_zero, List.drop_succ_cons, List.drop_zero, List.cons_append, List.nil_append, Nat.reduceMul]
  repeat' (first|((first|(refine zT ?_;intro K' hK')|(refine zG ?_ ?_<;>(try refine zH ?_)<;>intro hguard<;>(try exact zX)<;>try intro K' hK'))<;>((try simp +contextual only [go_sem, made_bools, Int.toNat_natCast, Nat.mul_one]);(repeat' first|(with_reducible refine hK' _ _ ?_;clear hK' K')|exact zY|with_reducible refine And.intro ?_ ?_|(with_reducible intro hpath;try exact zP)|(refine hK' _ _ ?_;clear hK' K')|fail);try refine zS ?_))|(refine zE ?_;refine hK _ _ ?_;clear hK K)|(refine zN ?_;try refine zS ?_)|refine zA ?_|(refine zB ?_;intro K hK)|(refine zC ?_ ?_<;>(try refine zH ?_)<;>intro hcond<;>try exact zX)|fail)
  rw [inK_zero set true n]
  have hzz : inK set true n 0 = inK set false n 0 := by rw [← inK_zero, ← inK_zero]
  refine AWp.loopS (α:=Nat) 66 (fun v=>[(1,.c (.slice (iRows set) .none)),(2,.c (.rptr [.int .i64 (n : Int), .slice (eRows es)])),(8,.c (.ref 2 1 0 n n)),(9,.c (.ref 1 1 0 n n)),(30,.c (.int .i64 (n : Int))),(31,.c (.int .i64 (v : Int)))]) (fun v=>[.ro [.int .i64 (n : Int), .slice (eRows es)], .box (bC (inK set true n v)), .box (bC (inK set false n v))]) (fun v=>v ≤ n) (fun v=>n - v) (0) (hk:=Weak.headL 3 66 [1, 2, 8, 9, 30, 31] (by (repeat' (first | exact valsIn_nil _ | exact blksIn_nil _ | exact cellsIn_nil _ | refine And.intro ?_ ?_ | refine valsIn_cons ?_ ?_ | refine blksIn_cons ?_ ?_ | refine cellsIn_cons ?_ ?_ | exact True.intro | exact fC_in | exact bC_in | (show _ < _; omega) | exact cellsIn_map (fun _ => True.intro) | (intro c hc; cases hc; done) | (intro c hc; simp only [List.mem_cons, List.not_mem_nil, or_false] at hc; subst hc; exact True.intro) | (intro c hc; simp only [List.mem_cons, List.not_mem_nil, or_false] at hc; rcases hc with rfl | rfl <;> exact True.intro))))) (h0:=?_) (round:=fun v hI=>?_)
  ·exact Nat.zero_le _
  ·have hv : v ≤ n := hI
   clear hI
   by_cases hvl : v < n
   ·have hvI : (v : Int) < (n : Int) := by omega
    have hCo := Contains_ok set (v : Int) hl
    have s1 := inK_set set false n v
    have s2 := inK_set set true n v
    have l1 := inK_len set false n v
    have l2 := inK_len set true n v
    have l3 := inK_len set false n (v + 1)
    rw [Bool.false_xor] at s1
    rw [Bool.true_xor] at s2
    generalize decide ((v : Int) ∈ set) = c at *
    have q1 := bC_set (inK set false n v) v c
    have q2 := bC_set (inK set true n v) v (!c)
    rw [s1] at q1
    rw [s2] at q2
    have g1 : (bC (inK set false n (v + 1)))[v]? = some (.bool c) := by rw [← q1]; exact List.getElem?_set_self (by rw [bC_len, l1]; omega)
    generalize inK set false n v = X at *
    generalize inK set true n v = Y at *
    repeat' (first|((first|(refine zT ?_;intro K' hK')|(refine zG ?_ ?_<;>(try refine zH ?_)<;>intro hguard<;>(try exact zX)<;>try intro K' hK'))<;>((try simp +contextual only [go_sem, hvI, l1, l2, l3, q1, q2, g1, bC_len, Int.toNat_natCast, Nat.mul_one]);(repeat' first|(with_reducible refine hK' _ _ ?_;clear hK' K')|(with_reducible refine zK hCo ?_;try simp +contextual only [go_sem, hvI, l1, l2, l3, q1, q2, g1, bC_len, Int.toNat_natCast, Nat.mul_one])|exact zY|with_reducible refine And.intro ?_ ?_|(with_reducible intro hpath;try exact zP)|(refine hK' _ _ ?_;clear hK' K')|fail);try refine zS ?_))|(refine zE ?_;refine hK _ _ ?_;clear hK K)|(refine zN ?_;try refine zS ?_)|refine zA ?_|(refine zB ?_;intro K hK)|(refine zC ?_ ?_<;>(try refine zH ?_)<;>intro hcond<;>try exact zX)|fail)
    refine ⟨v + 1,Weak.headN 3 66 [1, 2, 8, 9, 30, 31] (by (repeat' (first | exact valsIn_nil _ | exact blksIn_nil _ | exact cellsIn_nil _ | refine And.intro ?_ ?_ | refine valsIn_cons ?_ ?_ | refine blksIn_cons ?_ ?_ | refine cellsIn_cons ?_ ?_ | exact True.intro | exact fC_in | exact bC_in | (show _ < _; omega) | exact cellsIn_map (fun _ => True.intro) | (intro c hc; cases hc; done) | (intro c hc; simp only [List.mem_cons, List.not_mem_nil, or_false] at hc; subst hc; exact True.intro) | (intro c hc; simp only [List.mem_cons, List.not_mem_nil, or_false] at hc; rcases hc with rfl | rfl <;> exact True.intro)))),?_,?_⟩
    ·exact hvl
    ·omega
   ·have hnl : ¬ (v : Int) < (n : Int) := by omega
    have ev : v = n := by omega
    subst ev
    have r1 : inK set false v v = inR set false v := rfl
    have r2 : inK set true v v = inR set true v := rfl
    rw [r1, r2]
    have t1 : (inR set false v).length = v := inK_len _ _ _ _
    have t2 : (inR set true v).length = v := inK_len _ _ _ _
    generalize inR set false v = X at *
    generalize inR set true v = Y at *
    repeat' ((fail_if_success (with_reducible refine AWp.atSeq 15 ?_));(fail_if_success (with_reducible refine AWp.atLast 15 ?_));first|((first|(refine zT ?_;intro K' hK')|(refine zG ?_ ?_<;>(try refine zH ?_)<;>intro hguard<;>(try exact zX)<;>try intro K' hK'))<;>((try simp +contextual only [go_sem, hnl, fC_len, fC_free, hof, hst, hlF]);(repeat' first|(with_reducible refine hK' _ _ ?_;clear hK' K')|(with_reducible refine zK hJ ?_;try simp +contextual only [go_sem, hnl, fC_len, fC_free, hof, hst, hlF])|exact zY|with_reducible refine And.intro ?_ ?_|(with_reducible intro hpath;try exact zP)|(refine hK' _ _ ?_;clear hK' K')|fail);try refine zS ?_))|(refine zE ?_;refine hK _ _ ?_;clear hK K)|(refine zN ?_;try refine zS ?_)|refine zA ?_|(refine zB ?_;intro K hK)|(refine zC ?_ ?_<;>(try refine zH ?_)<;>intro hcond<;>try exact zX)|fail)
    refine AWp.freezeP 11 3 rfl rfl (fC_trees F) ?_
    simp only [List.set_cons_succ, List.set_cons_zero]
    generalize wholeB es v X = w1 at *
    generalize wholeB es v Y = w2 at *
    by_cases hp : (partsV F v).length = 1
    ·have hpI : ((partsV F v).length : Int) = 1 := by omega
     rw [decide_eq_true hp, Bool.true_and]
     cases w1
     ·
      repeat' (first|((first|(refine zT ?_;intro K' hK')|(refine zG ?_ ?_<;>(try refine zH ?_)<;>intro hguard<;>(try exact zX)<;>try intro K' hK'))<;>((try simp +contextual only [go_sem, hpI, llRows_len]);(repeat' first|(with_reducible refine hK' _ _ ?_;clear hK' K')|((with_reducible first|refine zK hP ?_|refine ⟨_,_,hw1 _ _ rfl,?_⟩|refine ⟨_,hw1 _ _ rfl,?_⟩);try simp +contextual only [go_sem, hpI, llRows_len])|exact zY|with_reducible refine And.intro ?_ ?_|(with_reducible intro hpath;try exact zP)|(refine hK' _ _ ?_;clear hK' K')|fail);try refine zS ?_))|(refine zE ?_;refine hK _ _ ?_;clear hK K)|(refine zN ?_;try refine zS ?_)|refine zA ?_|(refine zB ?_;intro K hK)|(refine zC ?_ ?_<;>(try refine zH ?_)<;>intro hcond<;>try exact zX)|fail)
      simp [Rets, aret, Blk.cells, ty, Try.results22, ares, toT1, toT, borrow, borrow0, capCell, toTree0, tint, tbool]
     ·cases w2
      ·
       repeat' (first|((first|(refine zT ?_;intro K' hK')|(refine zG ?_ ?_<;>(try refine zH ?_)<;>intro hguard<;>(try exact zX)<;>try intro K' hK'))<;>((try simp +contextual only [go_sem, hpI, llRows_len]);(repeat' first|(with_reducible refine hK' _ _ ?_;clear hK' K')|((with_reducible first|refine zK hP ?_|refine ⟨_,_,hw1 _ _ rfl,?_⟩|refine ⟨_,hw1 _ _ rfl,?_⟩|refine ⟨_,_,hw2 _ _ rfl,?_⟩|refine ⟨_,hw2 _ _ rfl,?_⟩);try simp +contextual only [go_sem, hpI, llRows_len])|exact zY|with_reducible refine And.intro ?_ ?_|(with_reducible intro hpath;try exact zP)|(refine hK' _ _ ?_;clear hK' K')|fail);try refine zS ?_))|(refine zE ?_;refine hK _ _ ?_;clear hK K)|(refine zN ?_;try refine zS ?_)|refine zA ?_|(refine zB ?_;intro K hK)|(refine zC ?_ ?_<;>(try refine zH ?_)<;>intro hcond<;>try exact zX)|fail)
       simp [Rets, aret, Blk.cells, ty, Try.results22, ares, toT1, toT, borrow, borrow0, capCell, toTree0, tint, tbool]
      ·
       repeat' (first|((first|(refine zT ?_;intro K' hK')|(refine zG ?_ ?_<;>(try refine zH ?_)<;>intro hguard<;>(try exact zX)<;>try intro K' hK'))<;>((try simp +contextual only [go_sem, hpI, llRows_len]);(repeat' first|(with_reducible refine hK' _ _ ?_;clear hK' K')|((with_reducible first|refine zK hP ?_|refine ⟨_,_,hw1 _ _ rfl,?_⟩|refine ⟨_,hw1 _ _ rfl,?_⟩|refine ⟨_,_,hw2 _ _ rfl,?_⟩|refine ⟨_,hw2 _ _ rfl,?_⟩);try simp +contextual only [go_sem, hpI, llRows_len])|exact zY|with_reducible refine And.intro ?_ ?_|(with_reducible intro hpath;try exact zP)|(refine hK' _ _ ?_;clear hK' K')|fail);try refine zS ?_))|(refine zE ?_;refine hK _ _ ?_;clear hK K)|(refine zN ?_;try refine zS ?_)|refine zA ?_|(refine zB ?_;intro K hK)|(refine zC ?_ ?_<;>(try refine zH ?_)<;>intro hcond<;>try exact zX)|fail)
       simp [Rets, aret, Blk.cells, ty, Try.results22, ares, toT1, toT, borrow, borrow0, capCell, toTree0, tint, tbool]
    ·have hpI : ¬ ((partsV F v).length : Int) = 1 := by omega
     rw [decide_eq_false hp, Bool.false_and, Bool.false_and]
     repeat' (first|((first|(refine zT ?_;intro K' hK')|(refine zG ?_ ?_<;>(try refine zH ?_)<;>intro hguard<;>(try exact zX)<;>try intro K' hK'))<;>((try simp +contextual only [go_sem, hpI, llRows_len]);(repeat' first|(with_reducible refine hK' _ _ ?_;clear hK' K')|(with_reducible refine zK hP ?_;try simp +contextual only [go_sem, hpI, llRows_len])|exact zY|with_reducible refine And.intro ?_ ?_|(with_reducible intro hpath;try exact zP)|(refine hK' _ _ ?_;clear hK' K')|fail);try refine zS ?_))|(refine zE ?_;refine hK _ _ ?_;clear hK K)|(refine zN ?_;try refine zS ?_)|refine zA ?_|(refine zB ?_;intro K hK)|(refine zC ?_ ?_<;>(try refine zH ?_)<;>intro hcond<;>try exact zX)|fail)
     simp [Rets, aret, Blk.cells, ty, Try.results22, ares, toT1, toT, borrow, borrow0, capCell, toTree0, tint, tbool]
def partR (R : List Bool) (k : Nat) : List Nat := (List.range k).filter fun u => R.getD u false
theorem partR_succ (R : List Bool) (k : Nat) : partR R (k + 1) = if R.getD k false = true then partR R k ++ [k] else partR R k := by
 unfold partR
 rw [List.range_succ, List.filter_append]
 cases h : R.getD k false <;> simp only [List.filter_cons, List.filter_nil, h, List.append_nil] <;> simp
theorem partR_len (R : List Bool) (k : Nat) : (partR R k).length ≤ k := by unfold partR; exact Nat.le_trans (List.length_filter_le _ _) (by simp)
def compStep (es : List E) (n : Nat) (l : List (List Nat)) (v : Nat) : List (List Nat) := if (partR (reachL es n v) n).getD 0 0 = v then l ++ [partR (reachL es n v) n] else l
def compR (es : List E) (n k : Nat) : List (List Nat) := (List.range k).foldl (compStep es n) []
theorem compR_succ (es : List E) (n k : Nat) : compR es n (k + 1) = compStep es n (compR es n k) k := by unfold compR; rw [List.range_succ, List.foldl_append]; rfl
theorem compR_len (es : List E) (n : Nat) : ∀ k, (compR es n k).length ≤ k := by
 intro k
 induction k with
 | zero => simp [compR]
 | succ k ih =>
  rw [compR_succ]; unfold compStep
  split
  ·rw [List.length_append, List.length_singleton]; omega
  ·omega
theorem partR_mem {R : List Bool} {k u : Nat} : u ∈ partR R k ↔ u < k ∧ R.getD u false = true := by unfold partR; rw [List.mem_filter, List.mem_range]
theorem filter_first {p : Nat → Bool} {n v : Nat} (hv : v < n) (hp : p v = true) : ((List.range n).filter p).getD 0 0 = v ↔ ∀ u, u < v → p u = false := by
 have e : List.range n = List.range v ++ (List.range n).drop v := by
  have h := (List.take_append_drop v (List.range n)).symm
  rwa [List.take_range, Nat.min_eq_left (by omega)] at h
 have hd : (List.range n).drop v = v :: (List.range n).drop (v + 1) := by
  rw [List.drop_eq_getElem_cons (by simpa using hv)]; simp
 constructor
 ·intro h u hu
  rw [← Bool.not_eq_true]
  intro hpu
  have hne : (List.range v).filter p ≠ [] := fun h0 => by
   have : u ∈ (List.range v).filter p := List.mem_filter.2 ⟨List.mem_range.2 hu, hpu⟩
   rw [h0] at this; cases this
  rw [e, List.filter_append] at h
  cases hf : (List.range v).filter p with
  | nil => exact hne hf
  | cons x l =>
   rw [hf] at h
   have hx : x ∈ (List.range v).filter p := by rw [hf]; simp
   have := List.mem_range.1 (List.mem_filter.1 hx).1
   simp at h
   omega
 ·intro h
  have h0 : (List.range v).filter p = [] := List.filter_eq_nil_iff.2 fun u hu => by
   rw [h u (List.mem_range.1 hu)]; simp
  rw [e, List.filter_append, h0, hd, List.filter_cons, if_pos hp]; rfl
theorem comp_eq {g : G} {n : Nat} (hc : checkG g = 0) (hn : g.n = n) {l : List (Int × Int)} (hl : In12 l) (hcn : ∀ u w, u < n → w < n → (Conn l u w ↔ Conn (endsL g.es) u w)) : ∀ k, k ≤ n → oI (compR g.es n k) = (rootsL (genS l).1 k).map (partV (genS l).1 n) := by
 have hF := (uf l hl).ok
 have h12 := (checkG_zero.1 hc).1
 intro k
 induction k with
 | zero => intro _; rfl
 | succ k ih =>
  intro hk
  have ih := ih (by omega)
  have hgt : ∀ u, u < n → ((reachL g.es n k).getD u false = true ↔ rootF (genS l).1 12 u = rootF (genS l).1 12 k) := fun u hu => by
   have h1 := reach_spec hc hn (v := k) (by omega) hu
   have h2 := conn_root hl (u := k) (w := u) (by omega) (by omega)
   have h3 := hcn k u (by omega) hu
   constructor
   ·intro h
    exact (h2.1 (h3.2 (h1.1 h))).symm
   ·intro h
    exact h1.2 (h3.1 (h2.2 h.symm))
  have hk1 := (hgt k (by omega)).2 rfl
  have hfirst := filter_first (p := fun u => (reachL g.es n k).getD u false) (n := n) (v := k) (by omega) hk1
  rw [compR_succ, rootsL_succ]
  unfold compStep
  have hiff : (partR (reachL g.es n k) n).getD 0 0 = k ↔ rootF (genS l).1 12 k = k := by
   unfold partR
   rw [hfirst]
   constructor
   ·intro h
    have hle := rootF_le hF (n := 12) (v := k) (by omega)
    refine Classical.byContradiction fun hne => ?_
    have hlt : rootF (genS l).1 12 k < k := by omega
    have h1 := h _ hlt
    have h2 := (hgt _ (by omega : rootF (genS l).1 12 k < n)).2 (root_self hF (by omega) (root_fix hF (by omega)))
    rw [h2] at h1; cases h1
   ·intro h u hu
    rw [← Bool.not_eq_true]
    intro hx
    have h1 := (hgt u (by omega)).1 hx
    have h2 := rootF_le hF (n := 12) (v := u) (by omega)
    omega
  by_cases hr : rootF (genS l).1 12 k = k
  ·rw [if_pos (hiff.2 hr), if_pos hr, List.map_append, List.map_cons, List.map_nil, ← ih]
   unfold oI
   rw [List.map_append, List.map_cons, List.map_nil]
   congr 2
   unfold partV zI partR
   congr 1
   refine List.filter_congr fun u hu => ?_
   have h1 := hgt u (List.mem_range.1 hu)
   rw [hr] at h1
   rw [Bool.eq_iff_iff, h1, decide_eq_true_eq]
  ·rw [if_neg (fun h => hr (hiff.1 h)), if_neg hr, ih]
theorem comp_parts {g : G} {n : Nat} (hc : checkG g = 0) (hn : g.n = n) {l : List (Int × Int)} (hl : In12 l) (hcn : ∀ u w, u < n → w < n → (Conn l u w ↔ Conn (endsL g.es) u w)) : oI (compR g.es n n) = partsV (genS l).1 n := comp_eq hc hn hl hcn n (Nat.le_refl _)
theorem refComponents_ok (g : G) (n : Nat) (hc : checkG g = 0) (hn : g.n = n) (hl : g.es.length < 2 ^ 30) : ACall Try.prog 36 [tG g] (tlists (oI (compR g.es n n))) := by
 have h12 := (checkG_zero.1 hc).1
 have hR := fun (v : Nat) (hv : v < n) => Reached_ok g n v hc hn hv hl
 have hself := fun (v : Nat) (hv : v < n) => (reach_spec hc hn hv hv).2 .refl
 have hRl : ∀ v, (reachL g.es n v).length = n := fun v => reachN_len g.es n v n
 obtain ⟨nI, es⟩ := g
 simp only at hn h12 hR hself ⊢
 subst hn
 refine ACall.of_body Try.func36 rfl (by kernel_rfl) ?_
 simp only [entry, Try.ntmps36, tG]
 refine zU ?_
 refine zR trivial trivial trivial ?_
 refine AWp.weak (Weak.opens ((fun t f => [f, f, f, t, f, f, f, f, f, f, f, f, f, f, f, f, f, f, f, f, f, f, f, f, f, f, f, f, f, f, f, f, f, f, f, f, f, f, f, f, f]) true false) 1 (by first | omega | simp)) ?_
 simp only [openS, openV, List.length_cons, List.length_nil, List.length_append, Nat.reduceAdd, List.cons_append, List.nil_append]
 refine AWp.loopS (α:=Nat) 41 (fun v=>[(1,.c (.ptr 0 0)),(3,.c (.slice (llRows (oI (compR es n v))) (.chain 1))),(4,.c (.int .i64 (v : Int)))]) (fun v=>[.box [.int .i64 (n : Int), .slice (eRows es) .none], .chain (compR es n v).length 1]) (fun v=>v ≤ n) (fun v=>n - v) (0) (hk:=Weak.headL 2 41 [1, 3, 4] zW) (h0:=?_) (round:=fun v hI=>?_)
 ·exact Nat.zero_le _
 ·have hv : v ≤ n := hI
  clear hI
  by_cases hvl : v < n
  ·have hvI : (v : Int) < (n : Int) := by omega
   have hRv := hR v hvl
   have hsv := hself v hvl
   have hlv := hRl v
   have hsu := compR_succ es n v
   have hcl := compR_len es n v
   unfold compStep at hsu
   generalize compR es n v = cs at *
   generalize reachL es n v = R at *
   refine zR (zc @hvI trivial) (zc hRv trivial) trivial ?_
   refine AWp.weak (Weak.opens ((fun t f => [f, f, f, f, f, f, t, f, f, f, f, f, f, f, f, f, f, f, f, f, f, f, f, f, f, f, f, f, f, f, f, f, f, f, f, f, f, f, f, f, f]) true false) 1 (by first | omega | simp)) ?_
   simp only [openS, openV, List.length_cons, List.length_nil, List.length_append, Nat.reduceAdd, List.cons_append, List.nil_append]
   refine AWp.loopS (α:=Nat) 41 (fun u=>[(1,.c (.ptr 0 0)),(3,.c (.slice (llRows (oI cs)) (.chain 1))),(4,.c (.int .i64 (v : Int))),(5,.c (.slice (bRows R) .none)),(6,.c (.slice (iRows (zI (partR R u))) (.chain 2))),(7,.c (.int .i64 (u : Int)))]) (fun u=>[.box [.int .i64 (n : Int), .slice (eRows es) .none], .chain cs.length 1, .chain (partR R u).length 1]) (fun u=>u ≤ n) (fun u=>n - u) (0) (hk:=Weak.headL 3 41 [1, 3, 4, 5, 6, 7] zW) (h0:=?_) (round:=fun u hI=>?_)
   ·exact Nat.zero_le _
   ·have hu : u ≤ n := hI
    clear hI
    by_cases hul : u < n
    ·have huI : (u : Int) < (n : Int) := by omega
     have ru := bRows_get (getD_bool (R := R) (i := u) (by omega))
     have hps := partR_succ R u
     have hpl := partR_len R u
     obtain ⟨pu, hpu⟩ : ∃ pu, R.getD u false = pu := ⟨_, rfl⟩
     rw [hpu] at hps ru
     cases pu
     ·rw [if_neg (by simp)] at hps
      repeat' (first|((first|(refine zT ?_;intro K' hK')|(refine zG ?_ ?_<;>(try refine zH ?_)<;>intro hguard<;>(try exact zX)<;>try intro K' hK'))<;>((try simp +contextual only [go_sem, huI, ru, hlv, bRows_len, Int.toNat_natCast]);(repeat' first|(with_reducible refine hK' _ _ ?_;clear hK' K')|exact zY|with_reducible refine And.intro ?_ ?_|(with_reducible intro hpath;try exact zP)|(refine hK' _ _ ?_;clear hK' K')|fail);try refine zS ?_))|(refine zE ?_;refine hK _ _ ?_;clear hK K)|(refine zN ?_;try refine zS ?_)|refine zA ?_|(refine zB ?_;intro K hK)|(refine zC ?_ ?_<;>(try refine zH ?_)<;>intro hcond<;>try exact zX)|fail)
      rw [← hps]
      refine ⟨u + 1,Weak.headN 3 41 [1, 3, 4, 5, 6, 7] zW,?_,?_⟩
      ·exact hul
      ·omega
     ·rw [if_pos rfl] at hps
      have hzs := zI_snoc (partR R u) u
      rw [← hps] at hzs
      have hln : (partR R (u + 1)).length = (partR R u).length + 1 := by rw [hps]; simp
      generalize partR R u = d at *
      repeat' (first|((first|(refine zT ?_;intro K' hK')|(refine zG ?_ ?_<;>(try refine zH ?_)<;>intro hguard<;>(try exact zX)<;>try intro K' hK'))<;>((try simp +contextual only [go_sem, huI, ru, hlv, bRows_len, iRows_len, iRows_snoc, zI_len, Int.toNat_natCast, chunks, List.range, List.range.loop]);(repeat' first|(with_reducible refine hK' _ _ ?_;clear hK' K')|(with_reducible exact iRows_k' (by assumption))|exact zY|with_reducible refine And.intro ?_ ?_|(with_reducible intro hpath;try exact zP)|(refine hK' _ _ ?_;clear hK' K')|fail);try refine zS ?_))|(refine zE ?_;refine hK _ _ ?_;clear hK K)|(refine zN ?_;try refine zS ?_)|refine zA ?_|(refine zB ?_;intro K hK)|(refine zC ?_ ?_<;>(try refine zH ?_)<;>intro hcond<;>try exact zX)|fail)
      rw [hzs]
      refine ⟨u + 1,Weak.headF 3 41 [1, 3, 4, 5, 6, 7] (zc @hln trivial) zW,?_,?_⟩
      ·exact hul
      ·omega
    ·have hnl : ¬ (u : Int) < (n : Int) := by omega
     have eu : u = n := by omega
     subst eu
     have hvm : v ∈ partR R u := partR_mem.2 ⟨hvl, hsv⟩
     have hpl := partR_len R u
     obtain ⟨x, hx0⟩ : ∃ x, (partR R u)[0]? = some x := ⟨_, List.getElem?_eq_getElem (List.length_pos_iff.2 (fun h => by rw [h] at hvm; cases hvm))⟩
     have hgd : (partR R u).getD 0 0 = x := by rw [List.getD_eq_getElem?_getD, hx0]; rfl
     have hpos : (0 : Int) < ((partR R u).length : Int) := by have := (List.getElem?_eq_some_iff.1 hx0).1; omega
     have e0 := zI_get hx0
     rw [hgd] at hsu
     generalize partR R u = d at *
     by_cases hxv : x = v
     ·rw [if_pos hxv] at hsu
      have hxI : (x : Int) = (v : Int) := by omega
      have hrs := llRows_snoc (oI cs) (zI d)
      have hos : oI cs ++ [zI d] = oI (compR es u (v + 1)) := by rw [hsu]; simp [oI]
      rw [hos] at hrs
      have hln : (compR es u (v + 1)).length = cs.length + 1 := by rw [hsu]; simp
      repeat' (first|((first|(refine zT ?_;intro K' hK')|(refine zG ?_ ?_<;>(try refine zH ?_)<;>intro hguard<;>(try exact zX)<;>try intro K' hK'))<;>((try simp +contextual only [go_sem, hnl, e0, hpos, hxI, iRows_len, zI_len, llRows_len, oI_len, hrs, Int.toNat_natCast, chunks, List.range, List.range.loop]);(repeat' first|(with_reducible refine hK' _ _ ?_;clear hK' K')|(with_reducible exact llRows_k' (by assumption))|exact zY|with_reducible refine And.intro ?_ ?_|(with_reducible intro hpath;try exact zP)|(refine hK' _ _ ?_;clear hK' K')|fail);try refine zS ?_))|(refine zE ?_;refine hK _ _ ?_;clear hK K)|(refine zN ?_;try refine zS ?_)|refine zA ?_|(refine zB ?_;intro K hK)|(refine zC ?_ ?_<;>(try refine zH ?_)<;>intro hcond<;>try exact zX)|fail)
      refine ⟨v + 1,Weak.headF 2 41 [1, 3, 4] (zc @hln trivial) zW,?_,?_⟩
      ·exact hvl
      ·omega
     ·rw [if_neg hxv] at hsu
      have hxI : ¬ (x : Int) = (v : Int) := by omega
      repeat' (first|((first|(refine zT ?_;intro K' hK')|(refine zG ?_ ?_<;>(try refine zH ?_)<;>intro hguard<;>(try exact zX)<;>try intro K' hK'))<;>((try simp +contextual only [go_sem, hnl, e0, hpos, hxI, iRows_len, zI_len, Int.toNat_natCast]);(repeat' first|(with_reducible refine hK' _ _ ?_;clear hK' K')|exact zY|with_reducible refine And.intro ?_ ?_|(with_reducible intro hpath;try exact zP)|(refine hK' _ _ ?_;clear hK' K')|fail);try refine zS ?_))|(refine zE ?_;refine hK _ _ ?_;clear hK K)|(refine zN ?_;try refine zS ?_)|refine zA ?_|(refine zB ?_;intro K hK)|(refine zC ?_ ?_<;>(try refine zH ?_)<;>intro hcond<;>try exact zX)|fail)
      rw [← hsu]
      refine ⟨v + 1,Weak.headN 2 41 [1, 3, 4] zW,?_,?_⟩
      ·exact hvl
      ·omega
  ·have hnl : ¬ (v : Int) < (n : Int) := by omega
   have ev : v = n := by omega
   subst ev
   refine zR (zc @hnl trivial) trivial trivial ?_
   simp [Rets, aret, Blk.cells, ty, Try.results36, ares, toT1, toT, borrow, borrow0, capCell, toTree0, tlists]
end Go.Proofs.Ytgklecfiflhjmaa
