/- A part of the proof: contracts of functions of the program, and plain lemmas. -/
import Derived.Test.YtfkegnhpihoncaaGreatPart14
import Derived.Test.YtfkegnhpihoncaaGreatPart19
import Derived.Test.YtfkegnhpihoncaaGreatPart04
import Derived.Test.YtfkegnhpihoncaaGreatLayerC
import Derived.Test.YtfkegnhpihoncaaGreatPart10
import Derived.Test.YtfkegnhpihoncaaGreatPart13
set_option linter.all false
namespace Go.Proofs.YtfkegnhpihoncaaGreat
open Go.Sp
set_option linter.unusedSimpArgs false
set_option linter.unusedVariables false
set_option maxHeartbeats 4000000
set_option maxRecDepth 100000
theorem xor_one (h : Nat) : h ^^^ 1 = oppH h := by
  have h1 : (h ^^^ 1) / 2 = h / 2 := by
    have := Nat.xor_div_two (a := h) (b := 1)
    simpa using this
  have h2 : (h ^^^ 1) % 2 = 1 - h % 2 := by
    rcases Nat.mod_two_eq_zero_or_one h with e | e
    · have : (h ^^^ 1) % 2 = 1 := by rw [Nat.xor_mod_two_eq_one]; simp [e]
      omega
    · have : ¬ (h ^^^ 1) % 2 = 1 := by rw [Nat.xor_mod_two_eq_one]; simp [e]
      omega
  unfold oppH; omega
theorem xor_bits (h : Nat) (hh : h < 2 ^ 40) : IntKind.i64.wrap (((BitVec.ofInt IntKind.i64.bits (h : Int) ^^^ BitVec.ofInt IntKind.i64.bits 1).toNat : Nat) : Int) = ((oppH h : Nat) : Int) := by
  have e1 : (BitVec.ofInt IntKind.i64.bits (h : Int)).toNat = h := by
    rw [BitVec.toNat_ofInt]
    show ((h : Int) % ((2 ^ 64 : Nat) : Int)).toNat = h
    omega
  have e2 : (BitVec.ofInt IntKind.i64.bits 1).toNat = 1 := by decide
  rw [BitVec.toNat_xor, e1, e2, xor_one]
  exact wrap_in ⟨by omega, by unfold oppH; omega⟩
theorem opposite_ok (h : Nat) (hh : h < 2 ^ 40) : ACall Tryz.prog 59 [tint h] (tint (oppH h : Nat)) := by
  have hx : ibit .xor .i64 (h : Int) 1 = ((oppH h : Nat) : Int) := xor_bits h hh
  refine ACall.of_body Tryz.func59 rfl (by kernel_rfl) ?_
  simp only [entry, Tryz.ntmps59, tint]
  refine zU ?_
  refine zR (zc @hx trivial) trivial trivial ?_
  simp [Rets, aret, Blk.cells, ty, Tryz.results59, ares, toT1, toT, borrow, borrow0, capCell, toTree0, tint]
@[simp] theorem it_zero (f : Nat → Nat) (s : Nat) : it f 0 s = s := rfl
def itemsN (l : List Nat) : List (List TVal) := l.map fun x : Nat => [tint (x : Int)]
theorem itemsN_len (l : List Nat) : (itemsN l).length = l.length := by simp [itemsN]
theorem itemsN_get {l : List Nat} {i x : Nat} (h : l[i]? = some x) : (itemsN l)[i]? = some [tint (x : Int)] := by simp [itemsN, h]
theorem itemsN_inv {l : List Nat} {i : Nat} {ts : List TVal} (h : (itemsN l)[i]? = some ts) : ∃ x, l[i]? = some x ∧ ts = [tint (x : Int)] := by
  simp only [itemsN, List.getElem?_map] at h
  cases hl : l[i]? with
  | none => simp [hl] at h
  | some p => simp [hl] at h; exact ⟨p, rfl, h.symm⟩
theorem orbit1_ok {N : Nat} {f : Nat → Nat} (hp : PermN N f) (hN : N < 2 ^ 30) (nexts : List Int) (hnl : nexts.length = N) (hev : ∀ x, x < N → oppH x < N) (hnx : ∀ x, x < N → nexts[oppH x]? = some ((f x : Nat) : Int)) (s : Nat) (hs : s < N) :
    AIter Tryz.prog 133 [.rptr [.int .i64 (s : Int)], .rptr [.slice (iRows nexts)]] (itemsN (faceF f N s)) := by
  obtain ⟨p, h1, h2, h3, h4, h5⟩ := face_spec hp hs
  rw [h5]
  have hget : ∀ k, k < p → (itemsN ((List.range p).map fun i => it f i s))[k]? = some [tint ((it f k s : Nat) : Int)] := fun k hk => itemsN_get (by simp [hk])
  have hlenI : (itemsN ((List.range p).map fun i => it f i s)).length = p := by rw [itemsN_len]; simp
  generalize itemsN ((List.range p).map fun i => it f i s) = xs at *
  refine AIter.of_body Tryz.func133 rfl (by kernel_rfl) rfl (fun l J Jx hJ hJx hY => ?_)
  simp only [entry, Tryz.ntmps133, ofT, ofT1, ofTree, List.map_cons, List.map_nil, List.length_cons, List.length_nil, Nat.reduceAdd, Nat.reduceSub, List.replicate_succ, List.replicate_zero, List.cons_append, List.nil_append]
  refine zR trivial trivial trivial ?_
  refine AWp.loopS (α:=Nat) 20 (fun k=>[(0,.c (.yld l)),(1,.c (.rptr [.int .i64 (s : Int)])),(2,.c (.rptr [.slice (iRows nexts)])),(4,.c (.int .i64 ((it f k s : Nat) : Int))),(5,.c (.bool (decide (k = 0) || decide (k < p))))]) (fun k=>[.ghost (J k)]) (fun k=>k ≤ p) (fun k=>p - k) (0) (hk:=Weak.headL 1 20 [0, 1, 2, 4, 5] zW) (h0:=?_) (round:=fun k hI=>?_)
  · exact Nat.zero_le _
  · have hk : k ≤ p := hI
    clear hI
    by_cases hlt : k < p
    · have hgk := hget k hlt
      have hxl := hp.it_lt hs k
      have hO := opposite_ok (it f k s) (by omega)
      have hol := hev _ hxl
      have hnk := iRows_get (hnx _ hxl)
      have hit : f (it f k s) = it f (k + 1) s := rfl
      rw [hit] at hnk
      have hmore : (((it f (k + 1) s : Nat) : Int) = (s : Int)) ↔ ¬ (k + 1 < p) := by
        constructor
        · intro e hc
          exact h4 (k + 1) (by omega) hc (by omega)
        · intro hc
          have : k + 1 = p := by omega
          rw [this, h3]
      have hdec : (decide (k = 0) || decide (k < p)) = true := by simp [hlt]
      rw [hdec]
      have holI : ((oppH (it f k s) : Nat) : Int) < (nexts.length : Int) := by omega
      repeat' (first|((with_reducible refine AWp.seq (AWp.of_reg (id:=4) (AReg.pre 2 (fun K hK=>?_))));simp only [List.take_succ_cons,List.take_zero])|((with_reducible refine AWp.of_reg (id:=4) (AReg.pre 2 (fun K hK=>?_)));simp only [List.take_succ_cons,List.take_zero])|((first|(refine zT ?_;intro K' hK')|(refine zG ?_ ?_<;>(try refine zH ?_)<;>intro hguard<;>(try exact zX)<;>try intro K' hK'))<;>((try simp +contextual only [go_sem]);(repeat' first|(with_reducible refine hK' _ _ ?_;clear hK' K')|exact zY|with_reducible refine And.intro ?_ ?_|(with_reducible intro hpath;try exact zP)|(refine hK' _ _ ?_;clear hK' K')|fail);try refine zS ?_))|(refine zE ?_;refine hK _ _ ?_;clear hK K)|(refine zN ?_;try refine zS ?_)|refine zA ?_|(refine zB ?_;intro K hK)|(refine zC ?_ ?_<;>(try refine zH ?_)<;>intro hcond<;>try exact zX)|fail)
      simp only [List.drop_succ_cons, List.drop_zero]
      refine AReg.yield rfl rfl rfl (by rfl) (by with_unfolding_all rfl) (by simp [okBlk]) (hY _ _ hgk) (hJ _) hJx ?_ ?_ <;> (try refine zS ?_) <;> refine AReg.rest (fun K hK => ?_)
      ·
        repeat' (first|((first|(refine zT ?_;intro K' hK')|(refine zG ?_ ?_<;>(try refine zH ?_)<;>intro hguard<;>(try exact zX)<;>try intro K' hK'))<;>((try simp +contextual only [go_sem, iRows_len, holI, hnk, Int.toNat_natCast]);(repeat' first|(with_reducible refine hK' _ _ ?_;clear hK' K')|(with_reducible refine zK hO ?_;try simp +contextual only [go_sem, iRows_len, holI, hnk, Int.toNat_natCast])|exact zY|with_reducible refine And.intro ?_ ?_|(with_reducible intro hpath;try exact zP)|(refine hK' _ _ ?_;clear hK' K')|fail);try refine zS ?_))|(refine zE ?_;refine hK _ _ ?_;clear hK K)|(refine zN ?_;try refine zS ?_)|refine zA ?_|(refine zB ?_;intro K hK)|(refine zC ?_ ?_<;>(try refine zH ?_)<;>intro hcond<;>try exact zX)|fail)
        have hb : (!decide (((it f (k + 1) s : Nat) : Int) = (s : Int))) = (decide (k + 1 = 0) || decide (k + 1 < p)) := by
          by_cases hc : k + 1 < p
          · rw [decide_eq_true hc, decide_eq_false (fun e => (hmore.1 e) hc)]; simp
          · rw [decide_eq_false hc, decide_eq_true (hmore.2 hc)]; simp
        rw [hb]
        refine ⟨k + 1,Weak.headN 1 20 [0, 1, 2, 4, 5] zW,?_,?_⟩
        · exact hlt
        · omega
      ·
        repeat' (first|((first|(refine zT ?_;intro K' hK')|(refine zG ?_ ?_<;>(try refine zH ?_)<;>intro hguard<;>(try exact zX)<;>try intro K' hK'))<;>((try simp +contextual only [go_sem]);(repeat' first|(with_reducible refine hK' _ _ ?_;clear hK' K')|exact zY|with_reducible refine And.intro ?_ ?_|(with_reducible intro hpath;try exact zP)|(refine hK' _ _ ?_;clear hK' K')|fail);try refine zS ?_))|(refine zE ?_;refine hK _ _ ?_;clear hK K)|(refine zN ?_;try refine zS ?_)|refine zA ?_|(refine zB ?_;intro K hK)|(refine zC ?_ ?_<;>(try refine zH ?_)<;>intro hcond<;>try exact zX)|fail)
        exact ⟨True.intro, _, .inr rfl⟩
    · have ek : k = p := by omega
      have hdec : (decide (k = 0) || decide (k < p)) = false := by simp; omega
      rw [hdec]
      refine zR trivial trivial trivial ?_
      exact ⟨True.intro, _, .inl (by rw [hlenI, ek])⟩
theorem orbit_ok (nexts : List Int) (s : Nat) : ACall Tryz.prog 91 [tints nexts, tint s] (.t (.fn 133 [.rptr [.int .i64 (s : Int)], .rptr [.slice (iRows nexts)]])) := by
  refine ACall.of_body Tryz.func91 rfl (by kernel_rfl) ?_
  simp only [entry, Tryz.ntmps91, tints, tint]
  refine zU ?_
  refine zR trivial trivial trivial ?_
  simp [Rets, aret, Blk.cells, ty, Tryz.results91, ares, toT1, toT, borrow, borrow0, capCell, toTree0]
end Go.Proofs.YtfkegnhpihoncaaGreat
set_option linter.all false
namespace Go.Proofs.YtfkegnhpihoncaaGreat
open Go.Sp
set_option linter.unusedSimpArgs false
set_option linter.unusedVariables false
set_option maxHeartbeats 4000000
set_option maxRecDepth 100000
def swapI (l : List Int) : Nat → List Int
  | 0 => l
  | i + 1 => ((swapI l i).set i ((swapI l i)[l.length - 1 - i]?.getD 0)).set (l.length - 1 - i) ((swapI l i)[i]?.getD 0)
@[simp] theorem swapI_zero (l : List Int) : swapI l 0 = l := rfl
theorem pre_in {m : Nat} {pre : List Blk} {B : List Int} (hpre : ∀ b, b ∈ pre → blkIn (pre.length + 1) b) (hm : m = pre.length + 1 := by rfl) : blksIn m (pre ++ [.box (iC B)]) := by
  subst hm
  intro b hb
  rcases List.mem_append.1 hb with hb | hb
  · exact hpre b hb
  · obtain rfl := List.mem_singleton.1 hb
    exact iC_in
@[simp] theorem take_pre (pre : List Blk) (X : Blk) : (pre ++ [X]).take (pre.length + 1) = pre ++ [X] := List.take_of_length_le (by simp)
end Go.Proofs.YtfkegnhpihoncaaGreat
set_option linter.all false
namespace Go.Proofs.YtfkegnhpihoncaaGreat
open Go.Sp
set_option linter.unusedSimpArgs false
set_option linter.unusedVariables false
set_option maxHeartbeats 4000000
set_option maxRecDepth 100000
def tu64 (n : Int) : TVal := .t (.int .u64 n)
theorem and32 (n : Nat) (hn : n < 2 ^ 32) : ibit .and .u64 (n : Int) 4294967295 = (n : Int) := by
  show IntKind.u64.wrap (((BitVec.ofInt IntKind.u64.bits (n : Int) &&& BitVec.ofInt IntKind.u64.bits 4294967295).toNat : Nat) : Int) = (n : Int)
  have e1 : (BitVec.ofInt IntKind.u64.bits (n : Int)).toNat = n := by
    rw [BitVec.toNat_ofInt]
    show ((n : Int) % ((2 ^ 64 : Nat) : Int)).toNat = n
    omega
  have e2 : (BitVec.ofInt IntKind.u64.bits 4294967295).toNat = 2 ^ 32 - 1 := by decide
  rw [BitVec.toNat_and, e1, e2, Nat.and_two_pow_sub_one_eq_mod, Nat.mod_eq_of_lt hn]
  exact wrap_in ⟨by omega, by omega⟩
theorem sh32 (x : Int) (h0 : 0 ≤ x) (h1 : x < 4294967296) : x.fdiv (2 ^ min 32 IntKind.u64.bits) = 0 := by
  rw [show (2 : Int) ^ min 32 IntKind.u64.bits = 4294967296 by decide, Int.fdiv_eq_ediv_of_nonneg _ (by omega)]
  omega
theorem sh32b (x : Int) (h0 : 0 ≤ x) (h1 : x < 4294967296) : x.fdiv (2 ^ min 32 64) = 0 := sh32 x h0 h1
theorem Mul64_ok (n : Nat) (hn : n < 2 ^ 30) : ACall Tryz.prog 161 [tu64 1, tu64 n] (.tup [tu64 0, tu64 n]) := by
  have a1 : ibit .and .u64 1 4294967295 = 1 := by decide
  have a0 : ibit .and .u64 0 4294967295 = 0 := by decide
  have an := and32 n (by omega)
  have s1 := sh32 1 (by omega) (by omega)
  have s0 := sh32 0 (by omega) (by omega)
  have sn := sh32 n (by omega) (by omega)
  have t1 := sh32b 1 (by omega) (by omega)
  have t0 := sh32b 0 (by omega) (by omega)
  have tn := sh32b n (by omega) (by omega)
  refine ACall.of_body Tryz.func161 rfl (by kernel_rfl) ?_
  simp only [entry, Tryz.ntmps161, tu64]
  refine zU ?_
  refine zR (zc @a1 (zc @a0 (zc @an (zc @s1 (zc @s0 (zc @sn (zc @t1 (zc @t0 (zc @tn (zc @Int.one_mul (zc @Int.zero_mul (zc @Int.mul_zero (zc @Int.add_zero (zc @Int.zero_add trivial)))))))))))))) trivial trivial ?_
  simp [Rets, aret, Blk.cells, ty, Tryz.results161, ares, toT1, toT, borrow, borrow0, capCell, toTree0, tu64]
theorem Mul_ok (n : Nat) (hn : n < 2 ^ 30) : ACall Tryz.prog 132 [tu64 1, tu64 n] (.tup [tu64 0, tu64 n]) := by
  have h := Mul64_ok n hn
  refine ACall.of_body Tryz.func132 rfl (by kernel_rfl) ?_
  simp only [entry, Tryz.ntmps132, tu64]
  refine zU ?_
  refine zR trivial (zc h trivial) trivial ?_
  simp [Rets, aret, Blk.cells, ty, Tryz.results132, ares, toT1, toT, borrow, borrow0, capCell, toTree0, tu64]
def repL (N n : Nat) : List Int := List.replicate n (-1) ++ List.replicate (N - n) 0
theorem repL_len {N n : Nat} (h : n ≤ N) : (repL N n).length = N := by simp [repL]; omega
theorem repL_zero (N : Nat) : repL N 0 = List.replicate N 0 := by simp [repL]
theorem repL_all (N : Nat) : repL N N = List.replicate N (-1) := by simp [repL]
theorem repL_take {N n m : Nat} (h : m ≤ n) : ((iC (repL N n)).drop 0).take m = iC (List.replicate m (-1)) := by
  unfold repL
  rw [List.drop_zero, iC_app, iC_rep, iC_rep, iC_rep, List.take_append_of_le_length (by simpa using h), List.take_replicate, Nat.min_eq_left h]
theorem repL_put {N n m : Nat} (h : n + m ≤ N) : setMany (iC (repL N n)) n (iC (List.replicate m (-1))) = iC (repL N (n + m)) := by
  have e : List.replicate (N - n) (0 : Int) = List.replicate m 0 ++ List.replicate (N - (n + m)) 0 := by
    rw [List.replicate_append_replicate]; congr 1; omega
  have e2 : List.replicate (n + m) (-1 : Int) = List.replicate n (-1) ++ List.replicate m (-1) := List.replicate_append_replicate.symm
  unfold repL
  rw [e, e2, ← List.append_assoc, iC_app, iC_app, iC_app, iC_app]
  have := setMany_mid (iC (List.replicate n (-1))) (iC (List.replicate m 0)) (iC (List.replicate (N - (n + m)) 0)) (iC (List.replicate m (-1))) (by simp [iC_len])
  rwa [iC_len, List.length_replicate] at this
theorem iC_free : ∀ B : List Int, anyFree (iC B) = true
  | [] => rfl
  | _ :: B => iC_free B
theorem Repeat_ok (N : Nat) (hN : N < 2 ^ 20) (pre : List Blk) (hpre : ∀ b, b ∈ pre → blkIn (pre.length + 1) b) :
    ACallH Tryz.prog 90 pre [.c (.slice [[.int .i64 (-1)]] .exact), .c (.int .i64 N)] (pre ++ [.box (iC (List.replicate N (-1)))]) (.c (.ref pre.length 1 0 N N)) := by
  have hgt : ∀ X : Blk, (pre ++ [X])[pre.length]? = some X := fun X => by simp
  have hst : ∀ X Y : Blk, (pre ++ [X]).set pre.length Y = pre ++ [Y] := fun X Y => by rw [List.set_append_right _ _ (Nat.le_refl _), Nat.sub_self]; rfl
  have hM := Mul_ok N (by omega)
  have n0 : ¬ ((N : Int) < 0) := by omega
  have n1 : ¬ (9223372036854775807 < (N : Int)) := by omega
  refine ACallH.of_body Tryz.func90 rfl (by kernel_rfl) ?_
  simp only [entry, Tryz.ntmps90, List.length_cons, List.length_nil, Nat.reduceAdd, Nat.reduceSub, List.replicate_succ, List.replicate_zero, List.cons_append, List.nil_append]
  by_cases hz : N = 0
  · subst hz
    refine zR (zc @made_ints (zc @hgt (zc @hst trivial))) (zc hM trivial) trivial ?_
    refine AWp.loopS (α:=Unit) 48 (fun k=>[(7,.c (.ref pre.length 1 0 0 0)),(8,.c (.int .i64 0))]) (fun k=>pre ++ [.box (iC [])]) (fun k=>True) (fun k=>0) (()) (hk:=Weak.headL (pre.length + 1) 48 [7, 8] (by (repeat' (first | exact valsIn_nil _ | exact blksIn_nil _ | exact cellsIn_nil _ | refine And.intro ?_ ?_ | refine valsIn_cons ?_ ?_ | refine blksIn_cons ?_ ?_ | refine cellsIn_cons ?_ ?_ | exact True.intro | exact pre_in hpre | (show _ < _; omega) | exact cellsIn_map (fun _ => True.intro) | (intro c hc; cases hc; done) | (intro c hc; simp only [List.mem_cons, List.not_mem_nil, or_false] at hc; subst hc; exact True.intro) | (intro c hc; simp only [List.mem_cons, List.not_mem_nil, or_false] at hc; rcases hc with rfl | rfl <;> exact True.intro))))) (h0:=?_) (round:=fun k hI=>?_)
    · trivial
    ·
      refine zR trivial trivial trivial ?_
      simp [RetsH, aretH, ares, noTup, Tryz.results90]
  · have h1 := repL_put (N := N) (n := 0) (m := 1) (by omega)
    rw [Nat.zero_add, repL_zero] at h1
    refine zR2 (zc @n0 (zc @n1 (zc @made_ints (zc @hgt (zc @hst (zc @hz trivial)))))) (zc hM trivial) trivial ?_ ?_
    · rw [iC_len, List.length_replicate]; omega
    · have hfl : flatRows [[Tree.int IntKind.i64 (-1)]] = iC (List.replicate 1 (-1)) := rfl
      rw [hfl, h1]
      refine AWp.loopS (α:=Nat) 48 (fun k=>[(7,.c (.ref pre.length 1 0 N N)),(8,.c (.int .i64 ((k : Int) + 1)))]) (fun k=>pre ++ [.box (iC (repL N (k + 1)))]) (fun k=>k + 1 ≤ N) (fun k=>N - k) (0) (hk:=Weak.headL (pre.length + 1) 48 [7, 8] (by (repeat' (first | exact valsIn_nil _ | exact blksIn_nil _ | exact cellsIn_nil _ | refine And.intro ?_ ?_ | refine valsIn_cons ?_ ?_ | refine blksIn_cons ?_ ?_ | refine cellsIn_cons ?_ ?_ | exact True.intro | exact pre_in hpre | (show _ < _; omega) | exact cellsIn_map (fun _ => True.intro) | (intro c hc; cases hc; done) | (intro c hc; simp only [List.mem_cons, List.not_mem_nil, or_false] at hc; subst hc; exact True.intro) | (intro c hc; simp only [List.mem_cons, List.not_mem_nil, or_false] at hc; rcases hc with rfl | rfl <;> exact True.intro))))) (h0:=?_) (round:=fun k hI=>?_)
      · omega
      · have hk : k + 1 ≤ N := hI
        clear hI
        by_cases hlt : k + 1 < N
        · have hltI : (k : Int) + 1 < N := by omega
          have ht : ((k : Int) + 1).toNat = k + 1 := by omega
          obtain ⟨q, hq⟩ : ∃ q, Nat.min (k + 1) (N - (k + 1)) = q := ⟨_, rfl⟩
          have hq1 : q ≤ k + 1 := by rw [← hq]; exact Nat.min_le_left _ _
          have hq2 : q ≤ N - (k + 1) := by rw [← hq]; exact Nat.min_le_right _ _
          have hq3 : 1 ≤ q := by rw [← hq]; exact Nat.le_min.2 ⟨by omega, by omega⟩
          have htk := repL_take (N := N) hq1
          rw [List.drop_zero] at htk
          have hpu := repL_put (N := N) (n := k + 1) (m := q) (by omega)
          have hlenR := repL_len hk
          have hfr := iC_free (List.replicate q (-1))
          have hNt : (N : Int).toNat = N := Int.toNat_natCast N
          have l1 : k + 1 + q ≤ N := by omega
          have l2 : q ≤ N := by omega
          have b1 : (0 : Int) ≤ (k : Int) + 1 := by omega
          have b2 : (k : Int) + 1 ≤ N := by omega
          repeat' (first|((first|(refine zT ?_;intro K' hK')|(refine zG ?_ ?_<;>(try refine zH ?_)<;>intro hguard<;>(try exact zX)<;>try intro K' hK'))<;>((try simp +contextual only [go_sem, hltI, ht, hq, hgt, hst, htk, hpu, iC_len, hlenR, hfr, hNt, l1, l2, b1, b2, Nat.zero_add, Nat.sub_zero, List.drop_zero, or_true, true_or]);(repeat' first|(with_reducible refine hK' _ _ ?_;clear hK' K')|exact zY|with_reducible refine And.intro ?_ ?_|(with_reducible intro hpath;try exact zP)|(refine hK' _ _ ?_;clear hK' K')|fail);try refine zS ?_))|(refine zE ?_;refine hK _ _ ?_;clear hK K)|(refine zN ?_;try refine zS ?_)|refine zA ?_|(refine zB ?_;intro K hK)|(refine zC ?_ ?_<;>(try refine zH ?_)<;>intro hcond<;>try exact zX)|fail)
          have e8 : (k : Int) + 1 + (q : Int) = ((k + q : Nat) : Int) + 1 := by omega
          have e9 : k + 1 + q = k + q + 1 := by omega
          rw [e8, e9]
          refine ⟨k + q,Weak.headN (pre.length + 1) 48 [7, 8] (by (repeat' (first | exact valsIn_nil _ | exact blksIn_nil _ | exact cellsIn_nil _ | refine And.intro ?_ ?_ | refine valsIn_cons ?_ ?_ | refine blksIn_cons ?_ ?_ | refine cellsIn_cons ?_ ?_ | exact True.intro | exact pre_in hpre | (show _ < _; omega) | exact cellsIn_map (fun _ => True.intro) | (intro c hc; cases hc; done) | (intro c hc; simp only [List.mem_cons, List.not_mem_nil, or_false] at hc; subst hc; exact True.intro) | (intro c hc; simp only [List.mem_cons, List.not_mem_nil, or_false] at hc; rcases hc with rfl | rfl <;> exact True.intro)))),?_,?_⟩
          · omega
          · omega
        · have ek : k + 1 = N := by omega
          have hnl : ¬ ((k : Int) + 1 < N) := by omega
          rw [ek, repL_all]
          refine zR (zc @hnl trivial) trivial trivial ?_
          simp [RetsH, aretH, ares, noTup, Tryz.results90]
end Go.Proofs.YtfkegnhpihoncaaGreat
