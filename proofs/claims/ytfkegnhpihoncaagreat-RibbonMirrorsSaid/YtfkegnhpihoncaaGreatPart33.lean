/- A part of the proof: contracts of functions of the program, and plain lemmas. -/
import Derived.Test.YtfkegnhpihoncaaGreatPart32
import Derived.Test.YtfkegnhpihoncaaGreatPart10
import Derived.Test.YtfkegnhpihoncaaGreatPart13
import Derived.Test.YtfkegnhpihoncaaGreatLayerC
set_option linter.all false
namespace Go.Proofs.YtfkegnhpihoncaaGreat
open Go.Sp
set_option linter.unusedSimpArgs false
set_option linter.unusedVariables false
set_option maxHeartbeats 4000000
set_option maxRecDepth 100000
def tu64 (n : Int) : TVal := .t (.int .u64 n)
theorem and32 (n : Nat) (hn : n < 2 ^ 32) : ibit .and .u64 (n : Int) 4294967295 = (n : Int) := by
  show IntKind.u64.wrap (((BitVec.ofInt IntKind.u64.bits (n : Int) &&& BitVec.ofInt IntKind.u64.bits 4294967295).toNat : Nat) : Int) = (n : Int)
  have e1 : (BitVec.ofInt IntKind.u64.bits (n : Int)).toNat = n := by
    rw [BitVec.toNat_ofInt]
    show ((n : Int) % ((2 ^ 64 : Nat) : Int)).toNat = n
    omega
  have e2 : (BitVec.ofInt IntKind.u64.bits 4294967295).toNat = 2 ^ 32 - 1 := by decide
  rw [BitVec.toNat_and, e1, e2, Nat.and_two_pow_sub_one_eq_mod, Nat.mod_eq_of_lt hn]
  exact wrap_in ⟨by omega, by omega⟩
theorem sh32 (x : Int) (h0 : 0 ≤ x) (h1 : x < 4294967296) : x.fdiv (2 ^ min 32 IntKind.u64.bits) = 0 := by
  rw [show (2 : Int) ^ min 32 IntKind.u64.bits = 4294967296 by decide, Int.fdiv_eq_ediv_of_nonneg _ (by omega)]
  omega
theorem sh32b (x : Int) (h0 : 0 ≤ x) (h1 : x < 4294967296) : x.fdiv (2 ^ min 32 64) = 0 := sh32 x h0 h1
theorem Mul64_ok (n : Nat) (hn : n < 2 ^ 30) : ACall Tryz.prog 161 [tu64 1, tu64 n] (.tup [tu64 0, tu64 n]) := by
  have a1 : ibit .and .u64 1 4294967295 = 1 := by decide
  have a0 : ibit .and .u64 0 4294967295 = 0 := by decide
  have an := and32 n (by omega)
  have s1 := sh32 1 (by omega) (by omega)
  have s0 := sh32 0 (by omega) (by omega)
  have sn := sh32 n (by omega) (by omega)
  have t1 := sh32b 1 (by omega) (by omega)
  have t0 := sh32b 0 (by omega) (by omega)
  have tn := sh32b n (by omega) (by omega)
  refine ACall.of_body Tryz.func161 rfl (by kernel_rfl) ?_
  simp only [entry, Tryz.ntmps161, tu64]
  refine zU ?_
  refine zR (zc @a1 (zc @a0 (zc @an (zc @s1 (zc @s0 (zc @sn (zc @t1 (zc @t0 (zc @tn (zc @Int.one_mul (zc @Int.zero_mul (zc @Int.mul_zero (zc @Int.add_zero (zc @Int.zero_add trivial)))))))))))))) trivial trivial ?_
  simp [Rets, aret, Blk.cells, ty, Tryz.results161, ares, toT1, toT, borrow, borrow0, capCell, toTree0, tu64]
theorem Mul_ok (n : Nat) (hn : n < 2 ^ 30) : ACall Tryz.prog 132 [tu64 1, tu64 n] (.tup [tu64 0, tu64 n]) := by
  have h := Mul64_ok n hn
  refine ACall.of_body Tryz.func132 rfl (by kernel_rfl) ?_
  simp only [entry, Tryz.ntmps132, tu64]
  refine zU ?_
  refine zR trivial (zc h trivial) trivial ?_
  simp [Rets, aret, Blk.cells, ty, Tryz.results132, ares, toT1, toT, borrow, borrow0, capCell, toTree0, tu64]
def repL (N n : Nat) : List Int := List.replicate n (-1) ++ List.replicate (N - n) 0
theorem repL_len {N n : Nat} (h : n ≤ N) : (repL N n).length = N := by simp [repL]; omega
theorem repL_zero (N : Nat) : repL N 0 = List.replicate N 0 := by simp [repL]
theorem repL_all (N : Nat) : repL N N = List.replicate N (-1) := by simp [repL]
theorem repL_take {N n m : Nat} (h : m ≤ n) : ((iC (repL N n)).drop 0).take m = iC (List.replicate m (-1)) := by
  unfold repL
  rw [List.drop_zero, iC_app, iC_rep, iC_rep, iC_rep, List.take_append_of_le_length (by simpa using h), List.take_replicate, Nat.min_eq_left h]
theorem repL_put {N n m : Nat} (h : n + m ≤ N) : setMany (iC (repL N n)) n (iC (List.replicate m (-1))) = iC (repL N (n + m)) := by
  have e : List.replicate (N - n) (0 : Int) = List.replicate m 0 ++ List.replicate (N - (n + m)) 0 := by
    rw [List.replicate_append_replicate]; congr 1; omega
  have e2 : List.replicate (n + m) (-1 : Int) = List.replicate n (-1) ++ List.replicate m (-1) := List.replicate_append_replicate.symm
  unfold repL
  rw [e, e2, ← List.append_assoc, iC_app, iC_app, iC_app, iC_app]
  have := setMany_mid (iC (List.replicate n (-1))) (iC (List.replicate m 0)) (iC (List.replicate (N - (n + m)) 0)) (iC (List.replicate m (-1))) (by simp [iC_len])
  rwa [iC_len, List.length_replicate] at this
theorem iC_free : ∀ B : List Int, anyFree (iC B) = true
  | [] => rfl
  | _ :: B => iC_free B
theorem Repeat_ok (N : Nat) (hN : N < 2 ^ 20) (pre : List Blk) (hpre : ∀ b, b ∈ pre → blkIn (pre.length + 1) b) :
    ACallH Tryz.prog 90 pre [.c (.slice [[.int .i64 (-1)]] .exact), .c (.int .i64 N)] (pre ++ [.box (iC (List.replicate N (-1)))]) (.c (.ref pre.length 1 0 N N)) := by
  have hgt : ∀ X : Blk, (pre ++ [X])[pre.length]? = some X := fun X => by simp
  have hst : ∀ X Y : Blk, (pre ++ [X]).set pre.length Y = pre ++ [Y] := fun X Y => by rw [List.set_append_right _ _ (Nat.le_refl _), Nat.sub_self]; rfl
  have hM := Mul_ok N (by omega)
  have n0 : ¬ ((N : Int) < 0) := by omega
  have n1 : ¬ (9223372036854775807 < (N : Int)) := by omega
  refine ACallH.of_body Tryz.func90 rfl (by kernel_rfl) ?_
  simp only [entry, Tryz.ntmps90, List.length_cons, List.length_nil, Nat.reduceAdd, Nat.reduceSub, List.replicate_succ, List.replicate_zero, List.cons_append, List.nil_append]
  by_cases hz : N = 0
  · subst hz
    refine zR (zc @made_ints (zc @hgt (zc @hst trivial))) (zc hM trivial) trivial ?_
    refine AWp.loopS (α:=Unit) 48 (fun k=>[(7,.c (.ref pre.length 1 0 0 0)),(8,.c (.int .i64 0))]) (fun k=>pre ++ [.box (iC [])]) (fun k=>True) (fun k=>0) (()) (hk:=Weak.headL (pre.length + 1) 48 [7, 8] (by (repeat' (first | exact valsIn_nil _ | exact blksIn_nil _ | exact cellsIn_nil _ | refine And.intro ?_ ?_ | refine valsIn_cons ?_ ?_ | refine blksIn_cons ?_ ?_ | refine cellsIn_cons ?_ ?_ | exact True.intro | exact pre_in hpre | (show _ < _; omega) | exact cellsIn_map (fun _ => True.intro) | (intro c hc; cases hc; done) | (intro c hc; simp only [List.mem_cons, List.not_mem_nil, or_false] at hc; subst hc; exact True.intro) | (intro c hc; simp only [List.mem_cons, List.not_mem_nil, or_false] at hc; rcases hc with rfl | rfl <;> exact True.intro))))) (h0:=?_) (round:=fun k hI=>?_)
    · trivial
    ·
      refine zR trivial trivial trivial ?_
      simp [RetsH, aretH, ares, noTup, Tryz.results90]
  · have h1 := repL_put (N := N) (n := 0) (m := 1) (by omega)
    rw [Nat.zero_add, repL_zero] at h1
    refine zR2 (zc @n0 (zc @n1 (zc @made_ints (zc @hgt (zc @hst (zc @hz trivial)))))) (zc hM trivial) trivial ?_ ?_
    · rw [iC_len, List.length_replicate]; omega
    · have hfl : flatRows [[Tree.int IntKind.i64 (-1)]] = iC (List.replicate 1 (-1)) := rfl
      rw [hfl, h1]
      refine AWp.loopS (α:=Nat) 48 (fun k=>[(7,.c (.ref pre.length 1 0 N N)),(8,.c (.int .i64 ((k : Int) + 1)))]) (fun k=>pre ++ [.box (iC (repL N (k + 1)))]) (fun k=>k + 1 ≤ N) (fun k=>N - k) (0) (hk:=Weak.headL (pre.length + 1) 48 [7, 8] (by (repeat' (first | exact valsIn_nil _ | exact blksIn_nil _ | exact cellsIn_nil _ | refine And.intro ?_ ?_ | refine valsIn_cons ?_ ?_ | refine blksIn_cons ?_ ?_ | refine cellsIn_cons ?_ ?_ | exact True.intro | exact pre_in hpre | (show _ < _; omega) | exact cellsIn_map (fun _ => True.intro) | (intro c hc; cases hc; done) | (intro c hc; simp only [List.mem_cons, List.not_mem_nil, or_false] at hc; subst hc; exact True.intro) | (intro c hc; simp only [List.mem_cons, List.not_mem_nil, or_false] at hc; rcases hc with rfl | rfl <;> exact True.intro))))) (h0:=?_) (round:=fun k hI=>?_)
      · omega
      · have hk : k + 1 ≤ N := hI
        clear hI
        by_cases hlt : k + 1 < N
        · have hltI : (k : Int) + 1 < N := by omega
          have ht : ((k : Int) + 1).toNat = k + 1 := by omega
          obtain ⟨q, hq⟩ : ∃ q, Nat.min (k + 1) (N - (k + 1)) = q := ⟨_, rfl⟩
          have hq1 : q ≤ k + 1 := by rw [← hq]; exact Nat.min_le_left _ _
          have hq2 : q ≤ N - (k + 1) := by rw [← hq]; exact Nat.min_le_right _ _
          have hq3 : 1 ≤ q := by rw [← hq]; exact Nat.le_min.2 ⟨by omega, by omega⟩
          have htk := repL_take (N := N) hq1
          rw [List.drop_zero] at htk
          have hpu := repL_put (N := N) (n := k + 1) (m := q) (by omega)
          have hlenR := repL_len hk
          have hfr := iC_free (List.replicate q (-1))
          have hNt : (N : Int).toNat = N := Int.toNat_natCast N
          have l1 : k + 1 + q ≤ N := by omega
          have l2 : q ≤ N := by omega
          have b1 : (0 : Int) ≤ (k : Int) + 1 := by omega
          have b2 : (k : Int) + 1 ≤ N := by omega
          repeat' (first|((first|(refine zT ?_;intro K' hK')|(refine zG ?_ ?_<;>(try refine zH ?_)<;>intro hguard<;>(try exact zX)<;>try intro K' hK'))<;>((try simp +contextual only [go_sem, hltI, ht, hq, hgt, hst, htk, hpu, iC_len, hlenR, hfr, hNt, l1, l2, b1, b2, Nat.zero_add, Nat.sub_zero, List.drop_zero, or_true, true_or]);(repeat' first|(with_reducible refine hK' _ _ ?_;clear hK' K')|exact zY|with_reducible refine And.intro ?_ ?_|(with_reducible intro hpath;try exact zP)|(refine hK' _ _ ?_;clear hK' K')|fail);try refine zS ?_))|(refine zE ?_;refine hK _ _ ?_;clear hK K)|(refine zN ?_;try refine zS ?_)|refine zA ?_|(refine zB ?_;intro K hK)|(refine zC ?_ ?_<;>(try refine zH ?_)<;>intro hcond<;>try exact zX)|fail)
          have e8 : (k : Int) + 1 + (q : Int) = ((k + q : Nat) : Int) + 1 := by omega
          have e9 : k + 1 + q = k + q + 1 := by omega
          rw [e8, e9]
          refine ⟨k + q,Weak.headN (pre.length + 1) 48 [7, 8] (by (repeat' (first | exact valsIn_nil _ | exact blksIn_nil _ | exact cellsIn_nil _ | refine And.intro ?_ ?_ | refine valsIn_cons ?_ ?_ | refine blksIn_cons ?_ ?_ | refine cellsIn_cons ?_ ?_ | exact True.intro | exact pre_in hpre | (show _ < _; omega) | exact cellsIn_map (fun _ => True.intro) | (intro c hc; cases hc; done) | (intro c hc; simp only [List.mem_cons, List.not_mem_nil, or_false] at hc; subst hc; exact True.intro) | (intro c hc; simp only [List.mem_cons, List.not_mem_nil, or_false] at hc; rcases hc with rfl | rfl <;> exact True.intro)))),?_,?_⟩
          · omega
          · omega
        · have ek : k + 1 = N := by omega
          have hnl : ¬ ((k : Int) + 1 < N) := by omega
          rw [ek, repL_all]
          refine zR (zc @hnl trivial) trivial trivial ?_
          simp [RetsH, aretH, ares, noTup, Tryz.results90]
end Go.Proofs.YtfkegnhpihoncaaGreat
set_option linter.all false
namespace Go.Proofs.YtfkegnhpihoncaaGreat
open Go.Sp
set_option linter.unusedSimpArgs false
set_option linter.unusedVariables false
set_option maxHeartbeats 4000000
set_option maxRecDepth 100000
theorem SameInts_ok (a b : List Int) (ha : a.length < 2 ^ 40) (hb : b.length < 2 ^ 40) : ACall Tryz.prog 53 [tints a, tints b] (tbool (decide (a = b))) := by
  refine ACall.of_body Tryz.func53 rfl (by kernel_rfl) ?_
  simp only [entry, Tryz.ntmps53, tints]
  refine zU ?_
  by_cases hlen : a.length = b.length
  case neg =>
    have hI : ¬ ((a.length : Int) = b.length) := by omega
    rw [decide_eq_false (fun e => hlen (by rw [e]))]
    refine zR (zc @iRows_len (zc @hI trivial)) trivial trivial ?_
    simp [Rets, aret, Blk.cells, ty, Tryz.results53, ares, toT1, toT, borrow, borrow0, capCell, toTree0, tbool]
  have hI : ((a.length : Int) = b.length) := by omega
  refine zR (zc @iRows_len (zc @hI trivial)) trivial trivial ?_
  refine AWp.loopS (α:=Nat) 26 (fun i=>[(0,.c (.slice (iRows a) .none)),(1,.c (.slice (iRows b) .none)),(5,.c (.int .i64 (i : Int)))]) (fun i=>[]) (fun i=>i ≤ b.length ∧ a.take i = b.take i) (fun i=>b.length - i) (0) (hk:=Weak.headL 0 26 [0, 1, 5] zW) (h0:=?_) (round:=fun i hI=>?_)
  · exact ⟨Nat.zero_le _, rfl⟩
  · obtain ⟨hi, hI2⟩ := hI
    by_cases hlt : i < b.length
    · have hltI : (i : Int) < b.length := by omega
      have hia : i < a.length := by omega
      have e0 := List.getElem?_eq_getElem hia
      have f0 := List.getElem?_eq_getElem hlt
      have e1 := iRows_get e0
      have f1 := iRows_get f0
      have t1 : a.take (i + 1) = a.take i ++ [a[i]] := List.take_succ_eq_append_getElem hia
      have t2 : b.take (i + 1) = b.take i ++ [b[i]] := List.take_succ_eq_append_getElem hlt
      generalize a[i] = x at *
      generalize b[i] = y at *
      by_cases hxy : x = y
      · subst hxy
        refine zR (zc @hltI (zc @iRows_len (zc @hI (zc @e1 (zc @f1 trivial))))) trivial trivial ?_
        refine ⟨i + 1,Weak.headN 0 26 [0, 1, 5] zW,?_,?_⟩
        · exact ⟨hlt, by rw [t1, t2, hI2]⟩
        · omega
      · rw [decide_eq_false (fun e => hxy (by subst e; rw [e0] at f0; exact Option.some.inj f0))]
        refine zR (zc @hltI (zc @iRows_len (zc @hI (zc @e1 (zc @f1 (zc @hxy trivial)))))) trivial trivial ?_
        simp [Rets, aret, Blk.cells, ty, Tryz.results53, ares, toT1, toT, borrow, borrow0, capCell, toTree0, tbool]
    · have ei : i = b.length := by omega
      have hab : a = b := by
        rw [List.take_of_length_le (by omega), List.take_of_length_le (by omega)] at hI2
        exact hI2
      rw [decide_eq_true hab]
      have hnl : ¬ ((i : Int) < b.length) := by omega
      refine zR (zc @hnl (zc @iRows_len (zc @hI trivial))) trivial trivial ?_
      simp [Rets, aret, Blk.cells, ty, Tryz.results53, ares, toT1, toT, borrow, borrow0, capCell, toTree0, tbool]
theorem SameLists_ok (a b : List (List Int)) (ha : a.length < 2 ^ 40) (hb : b.length < 2 ^ 40) (hal : ∀ l, l ∈ a → l.length < 2 ^ 40) (hbl : ∀ l, l ∈ b → l.length < 2 ^ 40) :
    ACall Tryz.prog 16 [tlists a, tlists b] (tbool (decide (a = b))) := by
  refine ACall.of_body Tryz.func16 rfl (by kernel_rfl) ?_
  simp only [entry, Tryz.ntmps16, tlists]
  refine zU ?_
  by_cases hlen : a.length = b.length
  case neg =>
    have hI : ¬ ((a.length : Int) = b.length) := by omega
    rw [decide_eq_false (fun e => hlen (by rw [e]))]
    refine zR (zc @llRows_len (zc @hI trivial)) trivial trivial ?_
    simp [Rets, aret, Blk.cells, ty, Tryz.results16, ares, toT1, toT, borrow, borrow0, capCell, toTree0, tbool]
  have hI : ((a.length : Int) = b.length) := by omega
  refine zR (zc @llRows_len (zc @hI trivial)) trivial trivial ?_
  refine AWp.loopS (α:=Nat) 27 (fun i=>[(0,.c (.slice (llRows a) .none)),(1,.c (.slice (llRows b) .none)),(5,.c (.int .i64 (i : Int)))]) (fun i=>[]) (fun i=>i ≤ b.length ∧ a.take i = b.take i) (fun i=>b.length - i) (0) (hk:=Weak.headL 0 27 [0, 1, 5] zW) (h0:=?_) (round:=fun i hI=>?_)
  · exact ⟨Nat.zero_le _, rfl⟩
  · obtain ⟨hi, hI2⟩ := hI
    by_cases hlt : i < b.length
    · have hltI : (i : Int) < b.length := by omega
      have hia : i < a.length := by omega
      have e0 := List.getElem?_eq_getElem hia
      have f0 := List.getElem?_eq_getElem hlt
      have e1 := llRows_get e0
      have f1 := llRows_get f0
      have hE := SameInts_ok a[i] b[i] (hal _ (List.getElem_mem hia)) (hbl _ (List.getElem_mem hlt))
      have t1 : a.take (i + 1) = a.take i ++ [a[i]] := List.take_succ_eq_append_getElem hia
      have t2 : b.take (i + 1) = b.take i ++ [b[i]] := List.take_succ_eq_append_getElem hlt
      generalize a[i] = x at *
      generalize b[i] = y at *
      by_cases hxy : x = y
      · rw [decide_eq_true hxy] at hE
        refine zR (zc @hltI (zc @llRows_len (zc @hI (zc @e1 (zc @f1 trivial))))) (zc hE trivial) trivial ?_
        refine ⟨i + 1,Weak.headN 0 27 [0, 1, 5] zW,?_,?_⟩
        · exact ⟨hlt, by rw [t1, t2, hI2, hxy]⟩
        · omega
      · rw [decide_eq_false hxy] at hE
        rw [decide_eq_false (fun e => hxy (by subst e; rw [e0] at f0; exact Option.some.inj f0))]
        refine zR (zc @hltI (zc @llRows_len (zc @hI (zc @e1 (zc @f1 trivial))))) (zc hE trivial) trivial ?_
        simp [Rets, aret, Blk.cells, ty, Tryz.results16, ares, toT1, toT, borrow, borrow0, capCell, toTree0, tbool]
    · have ei : i = b.length := by omega
      have hab : a = b := by
        rw [List.take_of_length_le (by omega), List.take_of_length_le (by omega)] at hI2
        exact hI2
      rw [decide_eq_true hab]
      have hnl : ¬ ((i : Int) < b.length) := by omega
      refine zR (zc @hnl (zc @llRows_len (zc @hI trivial))) trivial trivial ?_
      simp [Rets, aret, Blk.cells, ty, Tryz.results16, ares, toT1, toT, borrow, borrow0, capCell, toTree0, tbool]
theorem SameRR_ok (a b : R) (ha : RSm a) (hb : RSm b) : ACall Tryz.prog 31 [tR a, tR b] (tbool (sameR a b)) := by
  have hS := Same_ok a.g b.g (by have := ha.es; unfold R.g; simp only; omega) (by have := hb.es; unfold R.g; simp only; omega)
  have hL := SameLists_ok a.ar b.ar (by have := ha.ar; omega) (by have := hb.ar; omega) (fun l hl => by have := ha.l l hl; omega) (fun l hl => by have := hb.l l hl; omega)
  have hd : sameR a b = (decide (a.g.n = b.g.n ∧ a.g.es = b.g.es) && decide (a.ar = b.ar)) := by
    unfold sameR R.g
    rw [Bool.eq_iff_iff]; simp [and_assoc]
  rw [hd]
  clear hd ha hb
  generalize decide (a.g.n = b.g.n ∧ a.g.es = b.g.es) = x at *
  obtain ⟨n, es, ar⟩ := a
  obtain ⟨n', es', ar'⟩ := b
  simp only [R.g] at hS hL ⊢
  generalize decide (ar = ar') = y at *
  refine ACall.of_body Tryz.func31 rfl (by kernel_rfl) ?_
  simp only [entry, Tryz.ntmps31, tR]
  refine zU ?_
  cases x with
  | true =>
    rw [Bool.true_and]
    refine zR trivial (zc hS (zc hL trivial)) trivial ?_
    simp [Rets, aret, Blk.cells, ty, Tryz.results31, ares, toT1, toT, borrow, borrow0, capCell, toTree0, tbool]
  | false =>
    rw [Bool.false_and]
    refine zR trivial (zc hS (zc hL trivial)) trivial ?_
    simp [Rets, aret, Blk.cells, ty, Tryz.results31, ares, toT1, toT, borrow, borrow0, capCell, toTree0, tbool]
end Go.Proofs.YtfkegnhpihoncaaGreat
set_option linter.all false
namespace Go.Proofs.YtfkegnhpihoncaaGreat
open Go.Sp
set_option linter.unusedSimpArgs false
set_option linter.unusedVariables false
set_option maxHeartbeats 4000000
set_option maxRecDepth 100000
end Go.Proofs.YtfkegnhpihoncaaGreat
