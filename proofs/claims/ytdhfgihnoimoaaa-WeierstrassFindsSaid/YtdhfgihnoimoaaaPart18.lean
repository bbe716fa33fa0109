/- A part of the proof. -/
import Derived.Test.YtdhfgihnoimoaaaPart17
import Derived.Test.YtdhfgihnoimoaaaLayerC
import Derived.Test.YtdhfgihnoimoaaaPart06
import Derived.Test.YtdhfgihnoimoaaaPart04
import Derived.Test.YtdhfgihnoimoaaaPart08
import Derived.Test.YtdhfgihnoimoaaaPart07
set_option linter.all false
set_option maxHeartbeats 4000000
set_option maxRecDepth 100000
namespace Go.Proofs.Ytdhfgihnoimoaaa
open Go.Sp
open Classical in
theorem ncls_one {N : Nat} {R : Nat → Nat → Prop} (hR : Eqv N R) (h : ncls N R = 1) {x y : Nat} (hx : x < N) (hy : y < N) : R x y := by
 unfold ncls at h
 generalize hl : List.filter _ (List.range N) = l at h
 have hmem : ∀ h, h ∈ l ↔ h < N ∧ ∀ y, y < N → R h y → h ≤ y := fun h => by rw [← hl]; simp
 have lead : ∀ x, x < N → ∃ m, m < N ∧ R x m ∧ m ∈ l := fun x hx => by
  obtain ⟨m, m1, ⟨m2, m3⟩, m4⟩ := least_of (P := fun y => y < N ∧ R x y) ⟨hx, hR.refl x hx⟩
  exact ⟨m, m2, m3, (hmem m).2 ⟨m2, fun y hy hr => m4 y ⟨hy, hR.trans x m y hx m2 hy m3 hr⟩⟩⟩
 obtain ⟨a, a1, a2, a3⟩ := lead x hx
 obtain ⟨b, b1, b2, b3⟩ := lead y hy
 obtain ⟨c, rfl⟩ : ∃ c, l = [c] := List.length_eq_one_iff.1 h
 have e : a = b := by simp at a3 b3; rw [a3, b3]
 subst e
 exact hR.trans x a y hx a1 hy a2 (hR.symm y a hy a1 b2)
end Go.Proofs.Ytdhfgihnoimoaaa
namespace Go.Proofs.Ytdhfgihnoimoaaa
open Go.Sp
theorem refConn_ok (g : G) (hl : g.es.length ≤ 40) (hc : checkG g = 0) : ACall Try.prog 61 [tG g] (tbool (connB g)) := by
 have h12 := (checkG_zero.1 hc).1
 have hP := Parts_ok g g.n.toNat hc (by omega) (by omega)
 unfold connB
 generalize partsN g.es g.n.toNat g.n.toNat = k at *
 have e : decide (k = 1) = decide ((k : Int) = 1) := decide_eq_decide.2 (by omega)
 rw [e]
 obtain ⟨n, es⟩ := g
 refine ACall.of_body Try.func61 rfl (by kernel_rfl) ?_
 simp only [entry, Try.ntmps61, tG]
 refine zU ?_
 refine zR trivial (zc hP trivial) trivial ?_
 simp [Rets, aret, Blk.cells, ty, Try.results61, ares, toT1, toT, borrow, borrow0, capCell, toTree0, tbool]
theorem refJoined_ok (g : G) (hl : g.es.length ≤ 40) : ACall Try.prog 41 [tG g] (tint (joinedE g)) := by
 have hC := CheckR_ok g (by omega)
 unfold joinedE
 by_cases hc : checkG g = 0
 ·have hK := refConn_ok g hl hc
  have hCn := hK
  clear hK
  rw [if_neg (by omega)]
  rw [hc] at hC
  generalize connB g = b at *
  obtain ⟨n, es⟩ := g
  refine ACall.of_body Try.func41 rfl (by kernel_rfl) ?_
  simp only [entry, Try.ntmps41, tG]
  refine zU ?_
  cases b with
  | true =>
   rw [if_pos rfl]
   refine zR trivial (zc hC (zc hCn trivial)) trivial ?_
   simp [Rets, aret, Blk.cells, ty, Try.results41, ares, toT1, toT, borrow, borrow0, capCell, toTree0, tint]
  | false =>
   rw [if_neg (by simp)]
   refine zR trivial (zc hC (zc hCn trivial)) trivial ?_
   simp [Rets, aret, Blk.cells, ty, Try.results41, ares, toT1, toT, borrow, borrow0, capCell, toTree0, tint]
 ·rw [if_pos hc]
  generalize checkG g = E at *
  obtain ⟨n, es⟩ := g
  refine ACall.of_body Try.func41 rfl (by kernel_rfl) ?_
  simp only [entry, Try.ntmps41, tG]
  refine zU ?_
  refine zR (zc @hc trivial) (zc hC trivial) trivial ?_
  simp [Rets, aret, Blk.cells, ty, Try.results41, ares, toT1, toT, borrow, borrow0, capCell, toTree0, tint]
@[simp] theorem it_zero (f : Nat → Nat) (s : Nat) : it f 0 s = s := rfl
structure TF (F : List Nat) (rt dp : Nat → Nat) : Prop where
 len : F.length = 12
 lt : ∀ i (h : i < F.length), F[i] < 12
 same : ∀ i (h : i < F.length), rt F[i] = rt i
 self : ∀ i (h : i < F.length), F[i] = i → rt i = i
 down : ∀ i (h : i < F.length), F[i] ≠ i → dp F[i] < dp i
 rlt : ∀ i, i < 12 → rt i < 12
 fix : ∀ i, i < 12 → F[rt i]? = some (rt i)
section
variable {F : List Nat} {rt dp : Nat → Nat}
end
structure TC (L : List (Int × Int)) (F : List Nat) (rt dp : Nat → Nat) : Prop where
 tf : TF F rt dp
 conn : ∀ u w, u < 12 → w < 12 → (rt u = rt w ↔ Conn L u w)
def tu64 (n : Int) : TVal := .t (.int .u64 n)
theorem and32 (n : Nat) (hn : n < 2 ^ 32) : ibit .and .u64 (n : Int) 4294967295 = (n : Int) := by
 show IntKind.u64.wrap (((BitVec.ofInt IntKind.u64.bits (n : Int) &&& BitVec.ofInt IntKind.u64.bits 4294967295).toNat : Nat) : Int) = (n : Int)
 have e1 : (BitVec.ofInt IntKind.u64.bits (n : Int)).toNat = n := by
  rw [BitVec.toNat_ofInt]
  show ((n : Int) % ((2 ^ 64 : Nat) : Int)).toNat = n
  omega
 have e2 : (BitVec.ofInt IntKind.u64.bits 4294967295).toNat = 2 ^ 32 - 1 := by decide
 rw [BitVec.toNat_and, e1, e2, Nat.and_two_pow_sub_one_eq_mod, Nat.mod_eq_of_lt hn]
 exact wrap_in ⟨by omega, by omega⟩
theorem sh32 (x : Int) (h0 : 0 ≤ x) (h1 : x < 4294967296) : x.fdiv (2 ^ min 32 IntKind.u64.bits) = 0 := by
 rw [show (2 : Int) ^ min 32 IntKind.u64.bits = 4294967296 by decide, Int.fdiv_eq_ediv_of_nonneg _ (by omega)]
 omega
theorem sh32b (x : Int) (h0 : 0 ≤ x) (h1 : x < 4294967296) : x.fdiv (2 ^ min 32 64) = 0 := sh32 x h0 h1
theorem Mul64_ok (n : Nat) (hn : n < 2 ^ 30) : ACall Try.prog 128 [tu64 1, tu64 n] (.tup [tu64 0, tu64 n]) := by
 have a1 : ibit .and .u64 1 4294967295 = 1 := by decide
 have a0 : ibit .and .u64 0 4294967295 = 0 := by decide
 have an := and32 n (by omega)
 have s1 := sh32 1 (by omega) (by omega)
 have s0 := sh32 0 (by omega) (by omega)
 have sn := sh32 n (by omega) (by omega)
 have t1 := sh32b 1 (by omega) (by omega)
 have t0 := sh32b 0 (by omega) (by omega)
 have tn := sh32b n (by omega) (by omega)
 refine ACall.of_body Try.func128 rfl (by kernel_rfl) ?_
 simp only [entry, Try.ntmps128, tu64]
 refine zU ?_
 refine zR (zc @a1 (zc @a0 (zc @an (zc @s1 (zc @s0 (zc @sn (zc @t1 (zc @t0 (zc @tn (zc @Int.one_mul (zc @Int.zero_mul (zc @Int.mul_zero (zc @Int.add_zero (zc @Int.zero_add trivial)))))))))))))) trivial trivial ?_
 simp [Rets, aret, Blk.cells, ty, Try.results128, ares, toT1, toT, borrow, borrow0, capCell, toTree0, tu64]
theorem Mul_ok (n : Nat) (hn : n < 2 ^ 30) : ACall Try.prog 125 [tu64 1, tu64 n] (.tup [tu64 0, tu64 n]) := by
 have h := Mul64_ok n hn
 refine ACall.of_body Try.func125 rfl (by kernel_rfl) ?_
 simp only [entry, Try.ntmps125, tu64]
 refine zU ?_
 refine zR trivial (zc h trivial) trivial ?_
 simp [Rets, aret, Blk.cells, ty, Try.results125, ares, toT1, toT, borrow, borrow0, capCell, toTree0, tu64]
def repL (N n : Nat) : List Int := List.replicate n (-1) ++ List.replicate (N - n) 0
theorem repL_len {N n : Nat} (h : n ≤ N) : (repL N n).length = N := by simp [repL]; omega
theorem repL_zero (N : Nat) : repL N 0 = List.replicate N 0 := by simp [repL]
theorem repL_all (N : Nat) : repL N N = List.replicate N (-1) := by simp [repL]
theorem repL_take {N n m : Nat} (h : m ≤ n) : ((iC (repL N n)).drop 0).take m = iC (List.replicate m (-1)) := by
 unfold repL
 rw [List.drop_zero, iC_app, iC_rep, iC_rep, iC_rep, List.take_append_of_le_length (by simpa using h), List.take_replicate, Nat.min_eq_left h]
theorem repL_put {N n m : Nat} (h : n + m ≤ N) : setMany (iC (repL N n)) n (iC (List.replicate m (-1))) = iC (repL N (n + m)) := by
 have e : List.replicate (N - n) (0 : Int) = List.replicate m 0 ++ List.replicate (N - (n + m)) 0 := by
  rw [List.replicate_append_replicate]; congr 1; omega
 have e2 : List.replicate (n + m) (-1 : Int) = List.replicate n (-1) ++ List.replicate m (-1) := List.replicate_append_replicate.symm
 unfold repL
 rw [e, e2, ← List.append_assoc, iC_app, iC_app, iC_app, iC_app]
 have := setMany_mid (iC (List.replicate n (-1))) (iC (List.replicate m 0)) (iC (List.replicate (N - (n + m)) 0)) (iC (List.replicate m (-1))) (by simp [iC_len])
 rwa [iC_len, List.length_replicate] at this
theorem iC_free : ∀ B : List Int, anyFree (iC B) = true
 | [] => rfl
 | _ :: B => iC_free B
theorem Repeat_ok (N : Nat) (hN : N < 2 ^ 20) (pre : List Blk) (hpre : ∀ b, b ∈ pre → blkIn (pre.length + 1) b) :
  ACallH Try.prog 121 pre [.c (.slice [[.int .i64 (-1)]] .exact), .c (.int .i64 N)] (pre ++ [.box (iC (List.replicate N (-1)))]) (.c (.ref pre.length 1 0 N N)) := by
 have hgt : ∀ X : Blk, (pre ++ [X])[pre.length]? = some X := fun X => by simp
 have hst : ∀ X Y : Blk, (pre ++ [X]).set pre.length Y = pre ++ [Y] := fun X Y => by rw [List.set_append_right _ _ (Nat.le_refl _), Nat.sub_self]; rfl
 have hM := Mul_ok N (by omega)
 have n0 : ¬ ((N : Int) < 0) := by omega
 have n1 : ¬ (9223372036854775807 < (N : Int)) := by omega
 refine ACallH.of_body Try.func121 rfl (by kernel_rfl) ?_
 simp only [entry, Try.ntmps121, List.length_cons, List.length_nil, Nat.reduceAdd, Nat.reduceSub, List.replicate_succ, List.replicate_zero, List.cons_append, List.nil_append]
 by_cases hz : N = 0
 ·subst hz
  refine zR (zc @made_ints (zc @hgt (zc @hst trivial))) (zc hM trivial) trivial ?_
  refine AWp.loopS (α:=Unit) 48 (fun k=>[(7,.c (.ref pre.length 1 0 0 0)),(8,.c (.int .i64 0))]) (fun k=>pre ++ [.box (iC [])]) (fun k=>True) (fun k=>0) (()) (hk:=Weak.headL (pre.length + 1) 48 [7, 8] (by (repeat' (first | exact valsIn_nil _ | exact blksIn_nil _ | exact cellsIn_nil _ | refine And.intro ?_ ?_ | refine valsIn_cons ?_ ?_ | refine blksIn_cons ?_ ?_ | refine cellsIn_cons ?_ ?_ | exact True.intro | exact pre_in hpre | (show _ < _; omega) | exact cellsIn_map (fun _ => True.intro) | (intro c hc; cases hc; done) | (intro c hc; simp only [List.mem_cons, List.not_mem_nil, or_false] at hc; subst hc; first | exact True.intro | exact pre_in hpre | (show _ < _; omega)) | (intro c hc; simp only [List.mem_cons, List.not_mem_nil, or_false] at hc; rcases hc with rfl | rfl <;> first | exact True.intro | exact pre_in hpre | (show _ < _; omega)))))) (h0:=?_) (round:=fun k hI=>?_)
  ·trivial
  ·
   refine zR trivial trivial trivial ?_
   simp [RetsH, aretH, ares, noTup, Try.results121]
 ·have h1 := repL_put (N := N) (n := 0) (m := 1) (by omega)
  rw [Nat.zero_add, repL_zero] at h1
  refine zR2 (zc @n0 (zc @n1 (zc @made_ints (zc @hgt (zc @hst (zc @hz trivial)))))) (zc hM trivial) trivial ?_ ?_
  ·rw [iC_len, List.length_replicate]; omega
  ·have hfl : flatRows [[Tree.int IntKind.i64 (-1)]] = iC (List.replicate 1 (-1)) := rfl
   rw [hfl, h1]
   refine AWp.loopS (α:=Nat) 48 (fun k=>[(7,.c (.ref pre.length 1 0 N N)),(8,.c (.int .i64 ((k : Int) + 1)))]) (fun k=>pre ++ [.box (iC (repL N (k + 1)))]) (fun k=>k + 1 ≤ N) (fun k=>N - k) (0) (hk:=Weak.headL (pre.length + 1) 48 [7, 8] (by (repeat' (first | exact valsIn_nil _ | exact blksIn_nil _ | exact cellsIn_nil _ | refine And.intro ?_ ?_ | refine valsIn_cons ?_ ?_ | refine blksIn_cons ?_ ?_ | refine cellsIn_cons ?_ ?_ | exact True.intro | exact pre_in hpre | (show _ < _; omega) | exact cellsIn_map (fun _ => True.intro) | (intro c hc; cases hc; done) | (intro c hc; simp only [List.mem_cons, List.not_mem_nil, or_false] at hc; subst hc; first | exact True.intro | exact pre_in hpre | (show _ < _; omega)) | (intro c hc; simp only [List.mem_cons, List.not_mem_nil, or_false] at hc; rcases hc with rfl | rfl <;> first | exact True.intro | exact pre_in hpre | (show _ < _; omega)))))) (h0:=?_) (round:=fun k hI=>?_)
   ·omega
   ·have hk : k + 1 ≤ N := hI
    clear hI
    by_cases hlt : k + 1 < N
    ·have hltI : (k : Int) + 1 < N := by omega
     have ht : ((k : Int) + 1).toNat = k + 1 := by omega
     obtain ⟨q, hq⟩ : ∃ q, Nat.min (k + 1) (N - (k + 1)) = q := ⟨_, rfl⟩
     have hq1 : q ≤ k + 1 := by rw [← hq]; exact Nat.min_le_left _ _
     have hq2 : q ≤ N - (k + 1) := by rw [← hq]; exact Nat.min_le_right _ _
     have hq3 : 1 ≤ q := by rw [← hq]; exact Nat.le_min.2 ⟨by omega, by omega⟩
     have htk := repL_take (N := N) hq1
     rw [List.drop_zero] at htk
     have hpu := repL_put (N := N) (n := k + 1) (m := q) (by omega)
     have hlenR := repL_len hk
     have hfr := iC_free (List.replicate q (-1))
     have hNt : (N : Int).toNat = N := Int.toNat_natCast N
     have l1 : k + 1 + q ≤ N := by omega
     have l2 : q ≤ N := by omega
     have b1 : (0 : Int) ≤ (k : Int) + 1 := by omega
     have b2 : (k : Int) + 1 ≤ N := by omega
     repeat' (first|((first|(refine zT ?_;intro K' hK')|(refine zG ?_ ?_<;>(try refine zH ?_)<;>intro hguard<;>(try exact zX)<;>try intro K' hK'))<;>((try simp +contextual only [go_sem, hltI, ht, hq, hgt, hst, htk, hpu, iC_len, hlenR, hfr, hNt, l1, l2, b1, b2, Nat.zero_add, Nat.sub_zero, List.drop_zero, or_true, true_or]);(repeat' first|(with_reducible refine hK' _ _ ?_;clear hK' K')|exact zY|with_reducible refine And.intro ?_ ?_|(with_reducible intro hpath;try exact zP)|(refine hK' _ _ ?_;clear hK' K')|fail);try refine zS ?_))|(refine zE ?_;refine hK _ _ ?_;clear hK K)|(refine zN ?_;try refine zS ?_)|refine zA ?_|(refine zB ?_;intro K hK)|(refine zC ?_ ?_<;>(try refine zH ?_)<;>intro hcond<;>try exact zX)|fail)
     have e8 : (k : Int) + 1 + (q : Int) = ((k + q : Nat) : Int) + 1 := by omega
     have e9 : k + 1 + q = k + q + 1 := by omega
     rw [e8, e9]
     refine ⟨k + q,Weak.headN (pre.length + 1) 48 [7, 8] (by (repeat' (first | exact valsIn_nil _ | exact blksIn_nil _ | exact cellsIn_nil _ | refine And.intro ?_ ?_ | refine valsIn_cons ?_ ?_ | refine blksIn_cons ?_ ?_ | refine cellsIn_cons ?_ ?_ | exact True.intro | exact pre_in hpre | (show _ < _; omega) | exact cellsIn_map (fun _ => True.intro) | (intro c hc; cases hc; done) | (intro c hc; simp only [List.mem_cons, List.not_mem_nil, or_false] at hc; subst hc; first | exact True.intro | exact pre_in hpre | (show _ < _; omega)) | (intro c hc; simp only [List.mem_cons, List.not_mem_nil, or_false] at hc; rcases hc with rfl | rfl <;> first | exact True.intro | exact pre_in hpre | (show _ < _; omega))))),?_,?_⟩
     ·omega
     ·omega
    ·have ek : k + 1 = N := by omega
     have hnl : ¬ ((k : Int) + 1 < N) := by omega
     rw [ek, repL_all]
     refine zR (zc @hnl trivial) trivial trivial ?_
     simp [RetsH, aretH, ares, noTup, Try.results121]
end Go.Proofs.Ytdhfgihnoimoaaa
