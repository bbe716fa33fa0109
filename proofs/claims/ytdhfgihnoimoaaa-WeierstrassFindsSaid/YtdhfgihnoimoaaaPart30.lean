/- A part of the proof. -/
import Derived.Test.YtdhfgihnoimoaaaPart29
import Derived.Test.YtdhfgihnoimoaaaLayerC
import Derived.Test.YtdhfgihnoimoaaaPart24
import Derived.Test.YtdhfgihnoimoaaaPart11
import Derived.Test.YtdhfgihnoimoaaaLayerE
set_option linter.all false
set_option maxHeartbeats 4000000
set_option maxRecDepth 100000
namespace Go.Proofs.Ytdhfgihnoimoaaa
open Go.Sp
theorem sumR_bnd {d : List Int} {K : Int} (h : bndL K d) : ∀ i : Nat, -(K * i) ≤ sumR (fun v => d.getD v 0) i ∧ sumR (fun v => d.getD v 0) i ≤ K * i
 | 0 => by simp [sumR]
 | i + 1 => by
  have h1 := sumR_bnd h i
  have h2 := h i
  have e : K * ((i + 1 : Nat) : Int) = K * i + K := by rw [Int.natCast_add, Int.mul_add]; simp
  simp only [sumR]
  omega
def sumD (d : List Int) (n : Nat) : Int := sumR (fun v => d.getD v 0) n
theorem cDegree_ok (d : List Int) (n : Nat) (h1 : 1 ≤ n) (h12 : n ≤ 12) (hd : d.length = n) (hb : bndL 1048576 d) : ACall Try.prog 84 [tints d] (.tup [tint (sumD d n), tint 0]) := by
 have hO := own_ok [d] n h1 h12 (by show 1 < 2 ^ 20; decide) (fun x hx => by rw [List.mem_singleton] at hx; subst hx; exact ⟨hd, hb⟩)
 have e0 : sumD d 0 = 0 := rfl
 simp only [llRows, List.map_cons, List.map_nil] at hO
 refine ACall.of_body Try.func84 rfl (by kernel_rfl) ?_
 simp only [entry, Try.ntmps84, tints]
 refine zU ?_
 repeat' ((fail_if_success (with_reducible refine AWp.atSeq 6 ?_));(fail_if_success (with_reducible refine AWp.atLast 6 ?_));first|((first|(refine zT ?_;intro K' hK')|(refine zG ?_ ?_<;>(try refine zH ?_)<;>intro hguard<;>(try exact zX)<;>try intro K' hK'))<;>((try simp +contextual only [go_sem, iRows_len, hd, List.length_cons, List.length_nil, chunks, List.range, List.range.loop]);(repeat' first|(with_reducible refine hK' _ _ ?_;clear hK' K')|(with_reducible refine zK hO ?_;try simp +contextual only [go_sem, iRows_len, hd, List.length_cons, List.length_nil, chunks, List.range, List.range.loop])|exact zY|with_reducible refine And.intro ?_ ?_|(with_reducible intro hpath;try exact zP)|(refine hK' _ _ ?_;clear hK' K')|fail);try refine zS ?_))|(refine zE ?_;refine hK _ _ ?_;clear hK K)|(refine zN ?_;try refine zS ?_)|refine zA ?_|(refine zB ?_;intro K hK)|(refine zC ?_ ?_<;>(try refine zH ?_)<;>intro hcond<;>try exact zX)|fail)
 refine AWp.loopS (α:=Nat) 25 (fun i=>[(5,.c (.int .i64 (sumD d i))),(14,.c (.slice (iRows d) .none)),(15,.c (.int .i64 (n : Int))),(16,.c (.int .i64 (i : Int)))]) (fun i=>[]) (fun i=>i ≤ n) (fun i=>n - i) (0) (hk:=Weak.headL 0 25 [5, 14, 15, 16] (zV3 @iC_in @bC_inS @stX_in)) (h0:=?_) (round:=fun i hI=>?_)
 ·exact Nat.zero_le _
 ·have hi : i ≤ n := hI
  clear hI
  by_cases hil : i < n
  ·have hiI : (i : Int) < (n : Int) := by omega
   have hg := iRows_get (getD_get (d := d) (i := i) (by omega))
   have hx := hb i
   have hs : -(1048576 * i) ≤ sumD d i ∧ sumD d i ≤ 1048576 * i := sumR_bnd hb i
   have hnx : sumD d (i + 1) = sumD d i + d.getD i 0 := rfl
   generalize hN1 : sumD d (i + 1) = N1 at *
   generalize sumD d i = N0 at *
   generalize d.getD i 0 = x at *
   refine zR (zc @hiI (zc @hg (zc @iRows_len (zc @hd (zc @Nat.zero_add trivial))))) trivial trivial ?_
   refine ⟨i + 1,Weak.headF 0 25 [5, 14, 15, 16] (zc @hN1 (zc @hnx trivial)) (zV3 @iC_in @bC_inS @stX_in),?_,?_⟩
   ·exact hil
   ·omega
  ·have hnl : ¬ (i : Int) < (n : Int) := by omega
   have ei : i = n := by omega
   rw [ei]
   rw [ei] at hnl
   refine zR (zc @hnl trivial) trivial trivial ?_
   simp [Rets, aret, Blk.cells, ty, Try.results84, ares, toT1, toT, borrow, borrow0, capCell, toTree0, tint]
theorem Zero_box (n : Nat) (h1 : 1 ≤ n) (h12 : n ≤ 12) : ACallH Try.prog 67 [] [.c (.int .i64 (n : Int))] [.box (iC (List.replicate n 0))] (.tup [.c (.ref 0 1 0 n n), .c (.int .i64 0)]) := by
 have hV := verticesD_ok n (by omega)
 refine ACallH.of_body Try.func67 rfl (by kernel_rfl) ?_
 simp only [entry, Try.ntmps67, List.length_cons, List.length_nil, Nat.reduceAdd, Nat.reduceSub, List.replicate_succ, List.replicate_zero, List.cons_append, List.nil_append]
 refine zR (zc @made_ints (zc @Nat.zero_add trivial)) (zc hV trivial) trivial ?_
 simp [RetsH, aretH, ares, noTup, Try.results67]
theorem Some_ok (n v : Nat) (k : Int) (h1 : 1 ≤ n) (h12 : n ≤ 12) (hv : v < n) (hk : -1048576 ≤ k ∧ k ≤ 1048576) : ACall Try.prog 46 [tint n, tint v, tint k] (.tup [tints ((List.replicate n 0).set v k), tint 0]) := by
 have hZ := Zero_box n h1 h12
 have hw := withinD_ok k hk
 have h0 : ¬ ((v : Int) < 0) := by omega
 have h2 : ¬ ((v : Int) ≥ (n : Int)) := by omega
 have hvI : (v : Int) < (n : Int) := by omega
 have hst := iC_set (List.replicate n 0) v k
 have hsl : ((List.replicate n (0 : Int)).set v k).length = n := by simp
 have hzl : (List.replicate n (0 : Int)).length = n := by simp
 generalize (List.replicate n (0 : Int)).set v k = d at *
 generalize List.replicate n (0 : Int) = z at *
 have hbi : ∀ (H : List Blk) (k : IntKind) (x : Int), borrow H (.int k x) = some (.int k x) := fun _ _ _ => rfl
 have hr0 : borrow [.box (iC d)] (.ref 0 1 0 n n) = some (.slice (iRows d)) := iC_ref hsl rfl
 refine ACall.of_body Try.func46 rfl (by kernel_rfl) ?_
 simp only [entry, Try.ntmps46, tint]
 refine zU ?_
 refine zJ trivial (zc @h0 (zc @h2 (zc @hvI (zc @hst (zc @iC_len (zc @hzl (zc @Nat.zero_add trivial))))))) (zc hw trivial) (zc hZ trivial) trivial ?_
 simp [Rets, aret, Try.results46, ares, toT1, toT, hr0, hbi, tints, tint]
theorem Total_ok (d : List Int) {n : Nat} (hd : d.length = n) (hn : n ≤ 100) (hb : bndL (2 ^ 40) d) : ACall Try.prog 37 [tints d] (tint (sumD d n)) := by
 have e0 : sumD d 0 = 0 := rfl
 refine ACall.of_body Try.func37 rfl (by kernel_rfl) ?_
 simp only [entry, Try.ntmps37, tints]
 refine zU ?_
 refine zR trivial trivial trivial ?_
 refine AWp.loopS (α:=Nat) 18 (fun i=>[(0,.c (.slice (iRows d) .none)),(3,.c (.int .i64 (sumD d i))),(4,.c (.int .i64 (i : Int)))]) (fun i=>[]) (fun i=>i ≤ n) (fun i=>n - i) (0) (hk:=Weak.headL 0 18 [0, 3, 4] (zV2 @iC_in @bC_inS)) (h0:=?_) (round:=fun i hI=>?_)
 ·exact Nat.zero_le _
 ·have hi : i ≤ n := hI
  clear hI
  by_cases hil : i < n
  ·have hiI : (i : Int) < (n : Int) := by omega
   have hg := iRows_get (getD_get (d := d) (i := i) (by omega))
   have hx := hb i
   have hs : -(2 ^ 40 * i) ≤ sumD d i ∧ sumD d i ≤ 2 ^ 40 * i := sumR_bnd hb i
   have hnx : sumD d (i + 1) = sumD d i + d.getD i 0 := rfl
   generalize hN1 : sumD d (i + 1) = N1 at *
   generalize sumD d i = N0 at *
   generalize d.getD i 0 = x at *
   refine zR (zc @hiI (zc @hg (zc @iRows_len (zc @hd (zc @Nat.zero_add trivial))))) trivial trivial ?_
   refine ⟨i + 1,Weak.headF 0 18 [0, 3, 4] (zc @hN1 (zc @hnx trivial)) (zV2 @iC_in @bC_inS),?_,?_⟩
   ·exact hil
   ·omega
  ·have hnl : ¬ (i : Int) < (n : Int) := by omega
   have ei : i = n := by omega
   rw [ei]
   rw [ei] at hnl
   refine zR (zc @hnl (zc @iRows_len (zc @hd trivial))) trivial trivial ?_
   simp [Rets, aret, Blk.cells, ty, Try.results37, ares, toT1, toT, borrow, borrow0, capCell, toTree0, tint]
theorem getD_get_eq {d : List Int} {i : Nat} (h : i < d.length) : d.getD i 0 = d[i] := by
 rw [List.getD_eq_getElem?_getD, List.getElem?_eq_getElem h]; rfl
def oweI (d : List Int) : Int := match oweL d with
 | some v => v
 | none => -1
theorem debtor_h (d : List Int) {n : Nat} (hd : d.length = n) (hn : n ≤ 100) {H : List Blk} {x : ACell} (hx : borrow H x = some (.slice (iRows d))) : ACallH Try.prog 112 H [.c x] H (.c (.int .i64 (oweI d))) := by
 have key : ACall Try.prog 112 [tints d] (tint (oweI d)) := by
  refine ACall.of_body Try.func112 rfl (by kernel_rfl) ?_
  simp only [entry, Try.ntmps112, tints]
  refine zU ?_
  refine zR trivial trivial trivial ?_
  refine AWp.loopS (α:=Nat) 16 (fun i=>[(0,.c (.slice (iRows d) .none)),(3,.c (.int .i64 (i : Int)))]) (fun i=>[]) (fun i=>i ≤ n ∧ ∀ j, j < i → ¬ d.getD j 0 < 0) (fun i=>n - i) (0) (hk:=Weak.headL 0 16 [0, 3] (zV2 @iC_in @bC_inS)) (h0:=?_) (round:=fun i hI=>?_)
  ·exact ⟨Nat.zero_le _, fun j hj => by omega⟩
  ·obtain ⟨hi, hno⟩ := hI
   by_cases hil : i < n
   ·have hiI : (i : Int) < (n : Int) := by omega
    have hgd := getD_get (d := d) (i := i) (by omega)
    have hg := iRows_get hgd
    by_cases hx0 : d.getD i 0 < 0
    ·have e : oweI d = i := by
      have : oweL d = some i := by
       unfold oweL
       rw [List.findIdx?_eq_some_iff_getElem]
       refine ⟨by omega, ?_, fun j hj => ?_⟩
       ·rw [← getD_get_eq (show i < d.length by omega)]
        simpa using hx0
       ·have h1 := hno j hj
        rw [getD_get_eq (show j < d.length by omega)] at h1
        simpa using h1
      unfold oweI; rw [this]
     rw [e]
     generalize d.getD i 0 = x at *
     refine zR (zc @hiI (zc @hg (zc @hx0 (zc @iRows_len (zc @hd (zc @Nat.zero_add trivial)))))) trivial trivial ?_
     simp [Rets, aret, Blk.cells, ty, Try.results112, ares, toT1, toT, borrow, borrow0, capCell, toTree0, tint]
    ·have hno2 : ∀ j, j < i + 1 → ¬ d.getD j 0 < 0 := fun j hj => by
      by_cases e : j = i
      ·rw [e]; exact hx0
      ·exact hno j (by omega)
     clear hno
     generalize d.getD i 0 = x at *
     refine zR (zc @hiI (zc @hg (zc @hx0 (zc @iRows_len (zc @hd (zc @Nat.zero_add trivial)))))) trivial trivial ?_
     refine ⟨i + 1,Weak.headN 0 16 [0, 3] (zV2 @iC_in @bC_inS),?_,?_⟩
     ·exact ⟨hil, hno2⟩
     ·omega
   ·have hnl : ¬ (i : Int) < (n : Int) := by omega
    have e : oweI d = -1 := by
     have : oweL d = none := by
      unfold oweL
      rw [List.findIdx?_eq_none_iff]
      intro x hx2
      obtain ⟨j, hj, rfl⟩ := List.mem_iff_getElem.1 hx2
      have := hno j (by omega)
      rw [getD_get_eq hj] at this
      simpa using this
     unfold oweI; rw [this]
    rw [e]
    refine zR (zc @hnl (zc @iRows_len (zc @hd trivial))) trivial trivial ?_
    simp [Rets, aret, Blk.cells, ty, Try.results112, ares, toT1, toT, borrow, borrow0, capCell, toTree0, tint]
 refine ACall.hb key ?_ rfl
 simp only [List.mapM_cons, List.mapM_nil, toT, hx, Option.map_some]; rfl
theorem all_h (b : List Bool) {n : Nat} (hd : b.length = n) (hn : n ≤ 100) {H : List Blk} {x : ACell} (hx : borrow H x = some (.slice (bRows b))) : ACallH Try.prog 113 H [.c x] H (.c (.bool (b.all id))) := by
 have key : ACall Try.prog 113 [tbools b] (tbool (b.all id)) := by
  refine ACall.of_body Try.func113 rfl (by kernel_rfl) ?_
  simp only [entry, Try.ntmps113, tbools]
  refine zU ?_
  refine zR trivial trivial trivial ?_
  refine AWp.loopS (α:=Nat) 15 (fun i=>[(0,.c (.slice (bRows b) .none)),(3,.c (.int .i64 (i : Int)))]) (fun i=>[]) (fun i=>i ≤ n ∧ ∀ j, j < i → b.getD j false = true) (fun i=>n - i) (0) (hk:=Weak.headL 0 15 [0, 3] (zV2 @iC_in @bC_inS)) (h0:=?_) (round:=fun i hI=>?_)
  ·exact ⟨Nat.zero_le _, fun j hj => by omega⟩
  ·obtain ⟨hi, hno⟩ := hI
   by_cases hil : i < n
   ·have hiI : (i : Int) < (n : Int) := by omega
    have hgd := getD_bool (R := b) (i := i) (by omega)
    have hg := bRows_get hgd
    cases hx0 : b.getD i false with
    | false =>
     have e : b.all id = false := by
      rw [Bool.eq_false_iff]
      intro h
      have := all_marked h (v := i) (by omega)
      rw [hx0] at this; cases this
     rw [e]
     rw [hx0] at hg
     refine zR (zc @hiI (zc @hg (zc @bRows_len (zc @hd (zc @Nat.zero_add trivial))))) trivial trivial ?_
     simp [Rets, aret, Blk.cells, ty, Try.results113, ares, toT1, toT, borrow, borrow0, capCell, toTree0, tbool]
    | true =>
     have hno2 : ∀ j, j < i + 1 → b.getD j false = true := fun j hj => by
      by_cases e : j = i
      ·rw [e]; exact hx0
      ·exact hno j (by omega)
     clear hno
     rw [hx0] at hg
     refine zR (zc @hiI (zc @hg (zc @bRows_len (zc @hd (zc @Nat.zero_add trivial))))) trivial trivial ?_
     refine ⟨i + 1,Weak.headN 0 15 [0, 3] (zV2 @iC_in @bC_inS),?_,?_⟩
     ·exact ⟨hil, hno2⟩
     ·omega
   ·have hnl : ¬ (i : Int) < (n : Int) := by omega
    have e : b.all id = true := by
     rw [List.all_eq_true]
     intro x hx2
     obtain ⟨j, hj, rfl⟩ := List.mem_iff_getElem.1 hx2
     have := hno j (by omega)
     rw [List.getD_eq_getElem?_getD, List.getElem?_eq_getElem hj] at this
     simpa using this
    rw [e]
    refine zR (zc @hnl (zc @bRows_len (zc @hd trivial))) trivial trivial ?_
    simp [Rets, aret, Blk.cells, ty, Try.results113, ares, toT1, toT, borrow, borrow0, capCell, toTree0, tbool]
 refine ACall.hb key ?_ rfl
 simp only [List.mapM_cons, List.mapM_nil, toT, hx, Option.map_some]; rfl
end Go.Proofs.Ytdhfgihnoimoaaa
