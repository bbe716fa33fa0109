/- A part of the proof. -/
import Derived.Test.YtfkegnhpihoncaaGreatPart32
import Derived.Test.YtfkegnhpihoncaaGreatPart10
import Derived.Test.YtfkegnhpihoncaaGreatPart13
import Derived.Test.YtfkegnhpihoncaaGreatLayerC
set_option linter.all false
set_option maxHeartbeats 4000000
set_option maxRecDepth 100000
namespace Go.Proofs.YtfkegnhpihoncaaGreat
open Go.Sp
structure TF (F : List Nat) (rt dp : Nat → Nat) : Prop where
 len : F.length = 12
 lt : ∀ i (h : i < F.length), F[i] < 12
 same : ∀ i (h : i < F.length), rt F[i] = rt i
 self : ∀ i (h : i < F.length), F[i] = i → rt i = i
 down : ∀ i (h : i < F.length), F[i] ≠ i → dp F[i] < dp i
 rlt : ∀ i, i < 12 → rt i < 12
 fix : ∀ i, i < 12 → F[rt i]? = some (rt i)
theorem TF.zero : TF (List.range 12) (fun v => v) (fun _ => 0) :=
 ⟨by simp, fun i h => by simpa using h, fun i h => by simp, fun i h _ => rfl, fun i h e => absurd (by simp) e, fun i h => h, fun i h => by simp [h]⟩
section
variable {F : List Nat} {rt dp : Nat → Nat}
theorem TF.idem (h : TF F rt dp) {i : Nat} (hi : i < 12) : rt (rt i) = rt i := by
 have hf := h.fix i hi
 obtain ⟨q1, q2⟩ := List.getElem?_eq_some_iff.1 hf
 exact h.self _ q1 q2
theorem TF.join (h : TF F rt dp) {a b : Nat} (ha : a < 12) (hb : b < 12) (hne : rt a ≠ rt b) :
  TF (F.set (rt a) (rt b)) (fun v => if rt v = rt a then rt b else rt v) (fun v => if rt v = rt a then dp v + dp (rt b) + 1 else dp v) := by
 have ra := h.rlt a ha
 have rb := h.rlt b hb
 have ia := h.idem ha
 have ib := h.idem hb
 have fa := h.fix a ha
 have fb := h.fix b hb
 have hl := h.len
 refine ⟨by rw [List.length_set]; exact hl, fun i hi => ?_, fun i hi => ?_, fun i hi e => ?_, fun i hi e => ?_, fun i hi => ?_, fun i hi => ?_⟩
 ·rw [List.getElem_set]; split
  ·exact rb
  ·exact h.lt i (by simpa using hi)
 ·have hi' : i < F.length := by simpa using hi
  rw [List.getElem_set]
  by_cases e : rt a = i
  ·rw [if_pos e]
   subst e
   simp only [ia, ib, if_true]
   rw [if_neg (fun e => hne e.symm)]
  ·rw [if_neg e]
   simp only [h.same i hi']
 ·have hi' : i < F.length := by simpa using hi
  rw [List.getElem_set] at e
  by_cases e2 : rt a = i
  ·rw [if_pos e2] at e; exact absurd (e2.trans e.symm) hne
  ·rw [if_neg e2] at e
   have := h.self i hi' e
   simp only [this]
   rw [if_neg (fun e => e2 e.symm)]
 ·have hi' : i < F.length := by simpa using hi
  rw [List.getElem_set] at e ⊢
  by_cases e2 : rt a = i
  ·subst e2
   simp only [if_true, ia, ib]
   rw [if_neg (fun e => hne e.symm)]
   omega
  ·rw [if_neg e2] at e ⊢
   have hs := h.same i hi'
   have hd := h.down i hi' e
   simp only [hs]
   split <;> omega
 ·split
  ·exact rb
  ·exact h.rlt i hi
 ·by_cases e : rt i = rt a
  ·rw [if_pos e, List.getElem?_set_ne hne]; exact fb
  ·rw [if_neg e, List.getElem?_set_ne (fun x => e x.symm)]; exact h.fix i hi
theorem TF.stay (h : TF F rt dp) {a b : Nat} (ha : a < 12) (e : rt a = rt b) : F.set (rt a) (rt b) = F := by
 have fa := h.fix a ha
 obtain ⟨q1, q2⟩ := List.getElem?_eq_some_iff.1 fa
 apply List.ext_getElem?
 intro i
 by_cases hi : rt a = i
 ·subst hi; rw [List.getElem?_set_self q1, fa, e]
 ·rw [List.getElem?_set_ne hi]
end
structure TC (L : List (Int × Int)) (F : List Nat) (rt dp : Nat → Nat) : Prop where
 tf : TF F rt dp
 conn : ∀ u w, u < 12 → w < 12 → (rt u = rt w ↔ Conn L u w)
def TCe (L : List (Int × Int)) (F : List Nat) : Prop := ∃ rt dp, TC L F rt dp
theorem conn_none {u w : Nat} : Conn [] u w ↔ u = w := by
 constructor
 ·intro h
  cases h with
  | refl => rfl
  | step _ hs => simp at hs
 ·rintro rfl; exact .refl
theorem TCe.zero : TCe [] (List.range 12) := ⟨_, _, TF.zero, fun u w _ _ => conn_none.symm⟩
theorem TC.snoc {L : List (Int × Int)} {F : List Nat} {rt dp : Nat → Nat} (h : TC L F rt dp) {a b : Nat} (ha : a < 12) (hb : b < 12) : TCe (L ++ [((a : Int), (b : Int))]) (F.set (rt a) (rt b)) := by
 obtain ⟨tf, cn⟩ := h
 by_cases e : rt a = rt b
 ·rw [tf.stay ha e]
  refine ⟨rt, dp, tf, fun u w hu hw => ?_⟩
  have hc := (cn a b ha hb).1 e
  rw [conn_snoc, cn u w hu hw]
  constructor
  ·exact .inl
  ·rintro (q | ⟨q1, q2⟩)
   ·exact q
   ·rcases q1 with q1 | q1 <;> rcases q2 with q2 | q2
    ·exact q1.symm.trans q2
    ·exact q1.symm.trans (hc.trans q2)
    ·exact q1.symm.trans (hc.symm.trans q2)
    ·exact q1.symm.trans q2
 ·refine ⟨_, _, tf.join ha hb e, fun u w hu hw => ?_⟩
  rw [conn_snoc]
  have c1 := cn u w hu hw
  have c2 := cn a u ha hu
  have c3 := cn b u hb hu
  have c4 := cn a w ha hw
  have c5 := cn b w hb hw
  rw [← c1, ← c2, ← c3, ← c4, ← c5]
  generalize rt u = p at *
  generalize rt w = q at *
  generalize rt a = c at *
  generalize rt b = d at *
  by_cases x : p = c <;> by_cases y : q = c
  ·rw [if_pos x, if_pos y]; omega
  ·rw [if_pos x, if_neg y]; omega
  ·rw [if_neg x, if_pos y]; omega
  ·rw [if_neg x, if_neg y]; omega
def acyc (M : List (Int × Int)) : Prop := ∀ k p, M[k]? = some p → ¬ Conn (M.take k) p.1.toNat p.2.toNat
theorem acyc_snoc {M : List (Int × Int)} {p : Int × Int} : acyc (M ++ [p]) ↔ acyc M ∧ ¬ Conn M p.1.toNat p.2.toNat := by
 constructor
 ·intro h
  refine ⟨fun k q hq => ?_, ?_⟩
  ·have hk := (List.getElem?_eq_some_iff.1 hq).1
   have := h k q (by rw [List.getElem?_append_left hk]; exact hq)
   rwa [List.take_append_of_le_length (by omega)] at this
  ·have := h M.length p (by rw [List.getElem?_append_right (by omega)]; simp)
   rwa [List.take_append_of_le_length (by omega), List.take_length] at this
 ·rintro ⟨h1, h2⟩ k q hq
  rw [List.getElem?_append] at hq
  split at hq
  ·rename_i hk
   rw [List.take_append_of_le_length (by omega)]
   exact h1 k q hq
  ·have hk : k = M.length := by
    have := (List.getElem?_eq_some_iff.1 hq).1
    simp at this; omega
   subst hk
   simp at hq; subst hq
   rw [List.take_append_of_le_length (by omega), List.take_length]
   exact h2
theorem acyc_nil : acyc [] := fun k p h => by simp at h
theorem ncls_snoc_in {n : Nat} {M : List (Int × Int)} {a b : Nat} (h : Conn M a b) : ncls n (Conn (M ++ [((a : Int), (b : Int))])) = ncls n (Conn M) := ncls_congr fun x y _ _ => by
 rw [conn_snoc]
 constructor
 ·rintro (q | ⟨q1, q2⟩)
  ·exact q
  ·rcases q1 with q1 | q1 <;> rcases q2 with q2 | q2
   ·exact q1.symm.trans q2
   ·exact q1.symm.trans (h.trans q2)
   ·exact q1.symm.trans (h.symm.trans q2)
   ·exact q1.symm.trans q2
 ·exact .inl
theorem ncls_snoc_new {n : Nat} {M : List (Int × Int)} {a b : Nat} (ha : a < n) (hb : b < n) (h : ¬ Conn M a b) : ncls n (Conn (M ++ [((a : Int), (b : Int))])) + 1 = ncls n (Conn M) :=
 ncls_join (conn_eqv n M) ha hb h fun x y _ _ => conn_snoc
open Classical in
theorem ncls_pos {n : Nat} {R : Nat → Nat → Prop} (h : 0 < n) : 1 ≤ ncls n R := by
 unfold ncls
 exact List.length_pos_of_mem (List.mem_filter.2 ⟨List.mem_range.2 h, decide_eq_true fun y _ _ => Nat.zero_le _⟩)
def InN (n : Nat) (M : List (Int × Int)) : Prop := ∀ p, p ∈ M → (0 ≤ p.1 ∧ p.1 < n) ∧ (0 ≤ p.2 ∧ p.2 < n)
theorem ncls_len {n : Nat} (M : List (Int × Int)) (h : InN n M) : n ≤ ncls n (Conn M) + M.length ∧ (acyc M ↔ ncls n (Conn M) + M.length = n) := by
 revert h
 refine snoc_ind (P := fun M => InN n M → n ≤ ncls n (Conn M) + M.length ∧ (acyc M ↔ ncls n (Conn M) + M.length = n)) ?_ ?_ M
 ·intro _
  rw [conn_nil_ncls]
  exact ⟨Nat.le_refl _, fun _ => rfl, fun _ => acyc_nil⟩
 ·intro M p ih h
  obtain ⟨i1, i2⟩ := ih fun q hq => h q (by simp [hq])
  have hp := h p (by simp)
  obtain ⟨p1, p2⟩ := p
  obtain ⟨a, rfl⟩ := Int.eq_ofNat_of_zero_le hp.1.1
  obtain ⟨b, rfl⟩ := Int.eq_ofNat_of_zero_le hp.2.1
  have ha : a < n := by have := hp.1.2; simp only at this; omega
  have hb : b < n := by have := hp.2.2; simp only at this; omega
  rw [acyc_snoc, List.length_append, List.length_singleton, i2]
  show _ ∧ (_ ∧ ¬ Conn M a b ↔ _)
  by_cases hc : Conn M a b
  ·have e : ncls n (Conn (M ++ [(((a : Nat) : Int), ((b : Nat) : Int))])) = _ := ncls_snoc_in hc
   rw [e]
   exact ⟨by omega, fun ⟨_, q⟩ => absurd hc q, fun q => by omega⟩
  ·have e : ncls n (Conn (M ++ [(((a : Nat) : Int), ((b : Nat) : Int))])) + 1 = _ := ncls_snoc_new ha hb hc
   exact ⟨by omega, fun ⟨q, _⟩ => by omega, fun q => ⟨by omega, hc⟩⟩
def pkL (L : List (Int × Int)) (t : List Int) : List (Int × Int) := t.map fun x => L.getD x.toNat (0, 0)
theorem pkL_len (L : List (Int × Int)) (t : List Int) : (pkL L t).length = t.length := by simp [pkL]
theorem pkL_in {n : Nat} {L : List (Int × Int)} {t : List Int} (hL : InN n L) (ht : ∀ x, x ∈ t → 0 ≤ x ∧ x < L.length) : InN n (pkL L t) := fun p hp => by
 obtain ⟨x, hx, rfl⟩ := List.mem_map.1 hp
 have := ht x hx
 rw [List.getD_eq_getElem?_getD, List.getElem?_eq_getElem (by omega)]
 exact hL _ (List.getElem_mem _)
open Classical in
noncomputable def treeB (n : Nat) (L : List (Int × Int)) (t : List Int) : Bool := decide ((t.length : Int) = n - 1 ∧ ncls n (Conn (pkL L t)) = 1)
theorem treeB_acyc {n : Nat} (h0 : 0 < n) {L : List (Int × Int)} {t : List Int} (hL : InN n L) (ht : ∀ x, x ∈ t → 0 ≤ x ∧ x < L.length) : treeB n L t = true ↔ acyc (pkL L t) ∧ (t.length : Int) = n - 1 := by
 unfold treeB
 rw [decide_eq_true_eq, (ncls_len _ (pkL_in hL ht)).2, pkL_len]
 omega
theorem subE_range {n : Int} : ∀ {p : Option Int} {l : List Int}, subE n p l = 0 → ∀ x, x ∈ l → 0 ≤ x ∧ x < n
 | _, [], _, x, hx => by cases hx
 | p, v :: l, h, x, hx => by
  rw [subE] at h
  by_cases hv : 0 ≤ v ∧ v < n
  ·rw [if_neg (by omega)] at h
   split at h
   ·omega
   ·rcases List.mem_cons.1 hx with rfl | hx
    ·exact hv
    ·exact subE_range h x hx
  ·rw [if_pos hv] at h; omega
noncomputable def treeE (g : G) (t : List Int) : Int :=
 if joinedE g ≠ 0 then joinedE g else if subE (endsL g.es).length none t ≠ 0 then subE (endsL g.es).length none t
 else if (t.length : Int) ≠ g.n - 1 then 8 else if treeB g.n.toNat (endsL g.es) t = true then 0 else 3
end Go.Proofs.YtfkegnhpihoncaaGreat
namespace Go.Proofs.YtfkegnhpihoncaaGreat
open Go.Sp
def tu64 (n : Int) : TVal := .t (.int .u64 n)
theorem and32 (n : Nat) (hn : n < 2 ^ 32) : ibit .and .u64 (n : Int) 4294967295 = (n : Int) := by
 show IntKind.u64.wrap (((BitVec.ofInt IntKind.u64.bits (n : Int) &&& BitVec.ofInt IntKind.u64.bits 4294967295).toNat : Nat) : Int) = (n : Int)
 have e1 : (BitVec.ofInt IntKind.u64.bits (n : Int)).toNat = n := by
  rw [BitVec.toNat_ofInt]
  show ((n : Int) % ((2 ^ 64 : Nat) : Int)).toNat = n
  omega
 have e2 : (BitVec.ofInt IntKind.u64.bits 4294967295).toNat = 2 ^ 32 - 1 := by decide
 rw [BitVec.toNat_and, e1, e2, Nat.and_two_pow_sub_one_eq_mod, Nat.mod_eq_of_lt hn]
 exact wrap_in ⟨by omega, by omega⟩
theorem sh32 (x : Int) (h0 : 0 ≤ x) (h1 : x < 4294967296) : x.fdiv (2 ^ min 32 IntKind.u64.bits) = 0 := by
 rw [show (2 : Int) ^ min 32 IntKind.u64.bits = 4294967296 by decide, Int.fdiv_eq_ediv_of_nonneg _ (by omega)]
 omega
theorem sh32b (x : Int) (h0 : 0 ≤ x) (h1 : x < 4294967296) : x.fdiv (2 ^ min 32 64) = 0 := sh32 x h0 h1
theorem Mul64_ok (n : Nat) (hn : n < 2 ^ 30) : ACall Tryz.prog 161 [tu64 1, tu64 n] (.tup [tu64 0, tu64 n]) := by
 have a1 : ibit .and .u64 1 4294967295 = 1 := by decide
 have a0 : ibit .and .u64 0 4294967295 = 0 := by decide
 have an := and32 n (by omega)
 have s1 := sh32 1 (by omega) (by omega)
 have s0 := sh32 0 (by omega) (by omega)
 have sn := sh32 n (by omega) (by omega)
 have t1 := sh32b 1 (by omega) (by omega)
 have t0 := sh32b 0 (by omega) (by omega)
 have tn := sh32b n (by omega) (by omega)
 refine ACall.of_body Tryz.func161 rfl (by kernel_rfl) ?_
 simp only [entry, Tryz.ntmps161, tu64]
 refine zU ?_
 refine zR (zc @a1 (zc @a0 (zc @an (zc @s1 (zc @s0 (zc @sn (zc @t1 (zc @t0 (zc @tn (zc @Int.one_mul (zc @Int.zero_mul (zc @Int.mul_zero (zc @Int.add_zero (zc @Int.zero_add trivial)))))))))))))) trivial trivial ?_
 simp [Rets, aret, Blk.cells, ty, Tryz.results161, ares, toT1, toT, borrow, borrow0, capCell, toTree0, tu64]
theorem Mul_ok (n : Nat) (hn : n < 2 ^ 30) : ACall Tryz.prog 132 [tu64 1, tu64 n] (.tup [tu64 0, tu64 n]) := by
 have h := Mul64_ok n hn
 refine ACall.of_body Tryz.func132 rfl (by kernel_rfl) ?_
 simp only [entry, Tryz.ntmps132, tu64]
 refine zU ?_
 refine zR trivial (zc h trivial) trivial ?_
 simp [Rets, aret, Blk.cells, ty, Tryz.results132, ares, toT1, toT, borrow, borrow0, capCell, toTree0, tu64]
def repL (N n : Nat) : List Int := List.replicate n (-1) ++ List.replicate (N - n) 0
theorem repL_len {N n : Nat} (h : n ≤ N) : (repL N n).length = N := by simp [repL]; omega
theorem repL_zero (N : Nat) : repL N 0 = List.replicate N 0 := by simp [repL]
theorem repL_all (N : Nat) : repL N N = List.replicate N (-1) := by simp [repL]
theorem repL_take {N n m : Nat} (h : m ≤ n) : ((iC (repL N n)).drop 0).take m = iC (List.replicate m (-1)) := by
 unfold repL
 rw [List.drop_zero, iC_app, iC_rep, iC_rep, iC_rep, List.take_append_of_le_length (by simpa using h), List.take_replicate, Nat.min_eq_left h]
theorem repL_put {N n m : Nat} (h : n + m ≤ N) : setMany (iC (repL N n)) n (iC (List.replicate m (-1))) = iC (repL N (n + m)) := by
 have e : List.replicate (N - n) (0 : Int) = List.replicate m 0 ++ List.replicate (N - (n + m)) 0 := by
  rw [List.replicate_append_replicate]; congr 1; omega
 have e2 : List.replicate (n + m) (-1 : Int) = List.replicate n (-1) ++ List.replicate m (-1) := List.replicate_append_replicate.symm
 unfold repL
 rw [e, e2, ← List.append_assoc, iC_app, iC_app, iC_app, iC_app]
 have := setMany_mid (iC (List.replicate n (-1))) (iC (List.replicate m 0)) (iC (List.replicate (N - (n + m)) 0)) (iC (List.replicate m (-1))) (by simp [iC_len])
 rwa [iC_len, List.length_replicate] at this
theorem iC_free : ∀ B : List Int, anyFree (iC B) = true
 | [] => rfl
 | _ :: B => iC_free B
theorem Repeat_ok (N : Nat) (hN : N < 2 ^ 20) (pre : List Blk) (hpre : ∀ b, b ∈ pre → blkIn (pre.length + 1) b) :
  ACallH Tryz.prog 90 pre [.c (.slice [[.int .i64 (-1)]] .exact), .c (.int .i64 N)] (pre ++ [.box (iC (List.replicate N (-1)))]) (.c (.ref pre.length 1 0 N N)) := by
 have hgt : ∀ X : Blk, (pre ++ [X])[pre.length]? = some X := fun X => by simp
 have hst : ∀ X Y : Blk, (pre ++ [X]).set pre.length Y = pre ++ [Y] := fun X Y => by rw [List.set_append_right _ _ (Nat.le_refl _), Nat.sub_self]; rfl
 have hM := Mul_ok N (by omega)
 have n0 : ¬ ((N : Int) < 0) := by omega
 have n1 : ¬ (9223372036854775807 < (N : Int)) := by omega
 refine ACallH.of_body Tryz.func90 rfl (by kernel_rfl) ?_
 simp only [entry, Tryz.ntmps90, List.length_cons, List.length_nil, Nat.reduceAdd, Nat.reduceSub, List.replicate_succ, List.replicate_zero, List.cons_append, List.nil_append]
 by_cases hz : N = 0
 ·subst hz
  refine zR (zc @made_ints (zc @hgt (zc @hst trivial))) (zc hM trivial) trivial ?_
  refine AWp.loopS (α:=Unit) 48 (fun k=>[(7,.c (.ref pre.length 1 0 0 0)),(8,.c (.int .i64 0))]) (fun k=>pre ++ [.box (iC [])]) (fun k=>True) (fun k=>0) (()) (hk:=Weak.headL (pre.length + 1) 48 [7, 8] (by (repeat' (first | exact valsIn_nil _ | exact blksIn_nil _ | exact cellsIn_nil _ | refine And.intro ?_ ?_ | refine valsIn_cons ?_ ?_ | refine blksIn_cons ?_ ?_ | refine cellsIn_cons ?_ ?_ | exact True.intro | exact pre_in hpre | (show _ < _; omega) | exact cellsIn_map (fun _ => True.intro) | (intro c hc; cases hc; done) | (intro c hc; simp only [List.mem_cons, List.not_mem_nil, or_false] at hc; subst hc; exact True.intro) | (intro c hc; simp only [List.mem_cons, List.not_mem_nil, or_false] at hc; rcases hc with rfl | rfl <;> exact True.intro))))) (h0:=?_) (round:=fun k hI=>?_)
  ·trivial
  ·
   refine zR trivial trivial trivial ?_
   simp [RetsH, aretH, ares, noTup, Tryz.results90]
 ·have h1 := repL_put (N := N) (n := 0) (m := 1) (by omega)
  rw [Nat.zero_add, repL_zero] at h1
  refine zR2 (zc @n0 (zc @n1 (zc @made_ints (zc @hgt (zc @hst (zc @hz trivial)))))) (zc hM trivial) trivial ?_ ?_
  ·rw [iC_len, List.length_replicate]; omega
  ·have hfl : flatRows [[Tree.int IntKind.i64 (-1)]] = iC (List.replicate 1 (-1)) := rfl
   rw [hfl, h1]
   refine AWp.loopS (α:=Nat) 48 (fun k=>[(7,.c (.ref pre.length 1 0 N N)),(8,.c (.int .i64 ((k : Int) + 1)))]) (fun k=>pre ++ [.box (iC (repL N (k + 1)))]) (fun k=>k + 1 ≤ N) (fun k=>N - k) (0) (hk:=Weak.headL (pre.length + 1) 48 [7, 8] (by (repeat' (first | exact valsIn_nil _ | exact blksIn_nil _ | exact cellsIn_nil _ | refine And.intro ?_ ?_ | refine valsIn_cons ?_ ?_ | refine blksIn_cons ?_ ?_ | refine cellsIn_cons ?_ ?_ | exact True.intro | exact pre_in hpre | (show _ < _; omega) | exact cellsIn_map (fun _ => True.intro) | (intro c hc; cases hc; done) | (intro c hc; simp only [List.mem_cons, List.not_mem_nil, or_false] at hc; subst hc; exact True.intro) | (intro c hc; simp only [List.mem_cons, List.not_mem_nil, or_false] at hc; rcases hc with rfl | rfl <;> exact True.intro))))) (h0:=?_) (round:=fun k hI=>?_)
   ·omega
   ·have hk : k + 1 ≤ N := hI
    clear hI
    by_cases hlt : k + 1 < N
    ·have hltI : (k : Int) + 1 < N := by omega
     have ht : ((k : Int) + 1).toNat = k + 1 := by omega
     obtain ⟨q, hq⟩ : ∃ q, Nat.min (k + 1) (N - (k + 1)) = q := ⟨_, rfl⟩
     have hq1 : q ≤ k + 1 := by rw [← hq]; exact Nat.min_le_left _ _
     have hq2 : q ≤ N - (k + 1) := by rw [← hq]; exact Nat.min_le_right _ _
     have hq3 : 1 ≤ q := by rw [← hq]; exact Nat.le_min.2 ⟨by omega, by omega⟩
     have htk := repL_take (N := N) hq1
     rw [List.drop_zero] at htk
     have hpu := repL_put (N := N) (n := k + 1) (m := q) (by omega)
     have hlenR := repL_len hk
     have hfr := iC_free (List.replicate q (-1))
     have hNt : (N : Int).toNat = N := Int.toNat_natCast N
     have l1 : k + 1 + q ≤ N := by omega
     have l2 : q ≤ N := by omega
     have b1 : (0 : Int) ≤ (k : Int) + 1 := by omega
     have b2 : (k : Int) + 1 ≤ N := by omega
     repeat' (first|((first|(refine zT ?_;intro K' hK')|(refine zG ?_ ?_<;>(try refine zH ?_)<;>intro hguard<;>(try exact zX)<;>try intro K' hK'))<;>((try simp +contextual only [go_sem, hltI, ht, hq, hgt, hst, htk, hpu, iC_len, hlenR, hfr, hNt, l1, l2, b1, b2, Nat.zero_add, Nat.sub_zero, List.drop_zero, or_true, true_or]);(repeat' first|(with_reducible refine hK' _ _ ?_;clear hK' K')|exact zY|with_reducible refine And.intro ?_ ?_|(with_reducible intro hpath;try exact zP)|(refine hK' _ _ ?_;clear hK' K')|fail);try refine zS ?_))|(refine zE ?_;refine hK _ _ ?_;clear hK K)|(refine zN ?_;try refine zS ?_)|refine zA ?_|(refine zB ?_;intro K hK)|(refine zC ?_ ?_<;>(try refine zH ?_)<;>intro hcond<;>try exact zX)|fail)
     have e8 : (k : Int) + 1 + (q : Int) = ((k + q : Nat) : Int) + 1 := by omega
     have e9 : k + 1 + q = k + q + 1 := by omega
     rw [e8, e9]
     refine ⟨k + q,Weak.headN (pre.length + 1) 48 [7, 8] (by (repeat' (first | exact valsIn_nil _ | exact blksIn_nil _ | exact cellsIn_nil _ | refine And.intro ?_ ?_ | refine valsIn_cons ?_ ?_ | refine blksIn_cons ?_ ?_ | refine cellsIn_cons ?_ ?_ | exact True.intro | exact pre_in hpre | (show _ < _; omega) | exact cellsIn_map (fun _ => True.intro) | (intro c hc; cases hc; done) | (intro c hc; simp only [List.mem_cons, List.not_mem_nil, or_false] at hc; subst hc; exact True.intro) | (intro c hc; simp only [List.mem_cons, List.not_mem_nil, or_false] at hc; rcases hc with rfl | rfl <;> exact True.intro)))),?_,?_⟩
     ·omega
     ·omega
    ·have ek : k + 1 = N := by omega
     have hnl : ¬ ((k : Int) + 1 < N) := by omega
     rw [ek, repL_all]
     refine zR (zc @hnl trivial) trivial trivial ?_
     simp [RetsH, aretH, ares, noTup, Tryz.results90]
theorem SameInts_ok (a b : List Int) (ha : a.length < 2 ^ 40) (hb : b.length < 2 ^ 40) : ACall Tryz.prog 53 [tints a, tints b] (tbool (decide (a = b))) := by
 refine ACall.of_body Tryz.func53 rfl (by kernel_rfl) ?_
 simp only [entry, Tryz.ntmps53, tints]
 refine zU ?_
 by_cases hlen : a.length = b.length
 case neg =>
  have hI : ¬ ((a.length : Int) = b.length) := by omega
  rw [decide_eq_false (fun e => hlen (by rw [e]))]
  refine zR (zc @iRows_len (zc @hI trivial)) trivial trivial ?_
  simp [Rets, aret, Blk.cells, ty, Tryz.results53, ares, toT1, toT, borrow, borrow0, capCell, toTree0, tbool]
 have hI : ((a.length : Int) = b.length) := by omega
 refine zR (zc @iRows_len (zc @hI trivial)) trivial trivial ?_
 refine AWp.loopS (α:=Nat) 26 (fun i=>[(0,.c (.slice (iRows a) .none)),(1,.c (.slice (iRows b) .none)),(5,.c (.int .i64 (i : Int)))]) (fun i=>[]) (fun i=>i ≤ b.length ∧ a.take i = b.take i) (fun i=>b.length - i) (0) (hk:=Weak.headL 0 26 [0, 1, 5] zW) (h0:=?_) (round:=fun i hI=>?_)
 ·exact ⟨Nat.zero_le _, rfl⟩
 ·obtain ⟨hi, hI2⟩ := hI
  by_cases hlt : i < b.length
  ·have hltI : (i : Int) < b.length := by omega
   have hia : i < a.length := by omega
   have e0 := List.getElem?_eq_getElem hia
   have f0 := List.getElem?_eq_getElem hlt
   have e1 := iRows_get e0
   have f1 := iRows_get f0
   have t1 : a.take (i + 1) = a.take i ++ [a[i]] := List.take_succ_eq_append_getElem hia
   have t2 : b.take (i + 1) = b.take i ++ [b[i]] := List.take_succ_eq_append_getElem hlt
   generalize a[i] = x at *
   generalize b[i] = y at *
   by_cases hxy : x = y
   ·subst hxy
    refine zR (zc @hltI (zc @iRows_len (zc @hI (zc @e1 (zc @f1 trivial))))) trivial trivial ?_
    refine ⟨i + 1,Weak.headN 0 26 [0, 1, 5] zW,?_,?_⟩
    ·exact ⟨hlt, by rw [t1, t2, hI2]⟩
    ·omega
   ·rw [decide_eq_false (fun e => hxy (by subst e; rw [e0] at f0; exact Option.some.inj f0))]
    refine zR (zc @hltI (zc @iRows_len (zc @hI (zc @e1 (zc @f1 (zc @hxy trivial)))))) trivial trivial ?_
    simp [Rets, aret, Blk.cells, ty, Tryz.results53, ares, toT1, toT, borrow, borrow0, capCell, toTree0, tbool]
  ·have ei : i = b.length := by omega
   have hab : a = b := by
    rw [List.take_of_length_le (by omega), List.take_of_length_le (by omega)] at hI2
    exact hI2
   rw [decide_eq_true hab]
   have hnl : ¬ ((i : Int) < b.length) := by omega
   refine zR (zc @hnl (zc @iRows_len (zc @hI trivial))) trivial trivial ?_
   simp [Rets, aret, Blk.cells, ty, Tryz.results53, ares, toT1, toT, borrow, borrow0, capCell, toTree0, tbool]
theorem SameLists_ok (a b : List (List Int)) (ha : a.length < 2 ^ 40) (hb : b.length < 2 ^ 40) (hal : ∀ l, l ∈ a → l.length < 2 ^ 40) (hbl : ∀ l, l ∈ b → l.length < 2 ^ 40) :
  ACall Tryz.prog 16 [tlists a, tlists b] (tbool (decide (a = b))) := by
 refine ACall.of_body Tryz.func16 rfl (by kernel_rfl) ?_
 simp only [entry, Tryz.ntmps16, tlists]
 refine zU ?_
 by_cases hlen : a.length = b.length
 case neg =>
  have hI : ¬ ((a.length : Int) = b.length) := by omega
  rw [decide_eq_false (fun e => hlen (by rw [e]))]
  refine zR (zc @llRows_len (zc @hI trivial)) trivial trivial ?_
  simp [Rets, aret, Blk.cells, ty, Tryz.results16, ares, toT1, toT, borrow, borrow0, capCell, toTree0, tbool]
 have hI : ((a.length : Int) = b.length) := by omega
 refine zR (zc @llRows_len (zc @hI trivial)) trivial trivial ?_
 refine AWp.loopS (α:=Nat) 27 (fun i=>[(0,.c (.slice (llRows a) .none)),(1,.c (.slice (llRows b) .none)),(5,.c (.int .i64 (i : Int)))]) (fun i=>[]) (fun i=>i ≤ b.length ∧ a.take i = b.take i) (fun i=>b.length - i) (0) (hk:=Weak.headL 0 27 [0, 1, 5] zW) (h0:=?_) (round:=fun i hI=>?_)
 ·exact ⟨Nat.zero_le _, rfl⟩
 ·obtain ⟨hi, hI2⟩ := hI
  by_cases hlt : i < b.length
  ·have hltI : (i : Int) < b.length := by omega
   have hia : i < a.length := by omega
   have e0 := List.getElem?_eq_getElem hia
   have f0 := List.getElem?_eq_getElem hlt
   have e1 := llRows_get e0
   have f1 := llRows_get f0
   have hE := SameInts_ok a[i] b[i] (hal _ (List.getElem_mem hia)) (hbl _ (List.getElem_mem hlt))
   have t1 : a.take (i + 1) = a.take i ++ [a[i]] := List.take_succ_eq_append_getElem hia
   have t2 : b.take (i + 1) = b.take i ++ [b[i]] := List.take_succ_eq_append_getElem hlt
   generalize a[i] = x at *
   generalize b[i] = y at *
   by_cases hxy : x = y
   ·rw [decide_eq_true hxy] at hE
    refine zR (zc @hltI (zc @llRows_len (zc @hI (zc @e1 (zc @f1 trivial))))) (zc hE trivial) trivial ?_
    refine ⟨i + 1,Weak.headN 0 27 [0, 1, 5] zW,?_,?_⟩
    ·exact ⟨hlt, by rw [t1, t2, hI2, hxy]⟩
    ·omega
   ·rw [decide_eq_false hxy] at hE
    rw [decide_eq_false (fun e => hxy (by subst e; rw [e0] at f0; exact Option.some.inj f0))]
    refine zR (zc @hltI (zc @llRows_len (zc @hI (zc @e1 (zc @f1 trivial))))) (zc hE trivial) trivial ?_
    simp [Rets, aret, Blk.cells, ty, Tryz.results16, ares, toT1, toT, borrow, borrow0, capCell, toTree0, tbool]
  ·have ei : i = b.length := by omega
   have hab : a = b := by
    rw [List.take_of_length_le (by omega), List.take_of_length_le (by omega)] at hI2
    exact hI2
   rw [decide_eq_true hab]
   have hnl : ¬ ((i : Int) < b.length) := by omega
   refine zR (zc @hnl (zc @llRows_len (zc @hI trivial))) trivial trivial ?_
   simp [Rets, aret, Blk.cells, ty, Tryz.results16, ares, toT1, toT, borrow, borrow0, capCell, toTree0, tbool]
theorem SameRR_ok (a b : R) (ha : RSm a) (hb : RSm b) : ACall Tryz.prog 31 [tR a, tR b] (tbool (sameR a b)) := by
 have hS := Same_ok a.g b.g (by have := ha.es; unfold R.g; simp only; omega) (by have := hb.es; unfold R.g; simp only; omega)
 have hL := SameLists_ok a.ar b.ar (by have := ha.ar; omega) (by have := hb.ar; omega) (fun l hl => by have := ha.l l hl; omega) (fun l hl => by have := hb.l l hl; omega)
 have hd : sameR a b = (decide (a.g.n = b.g.n ∧ a.g.es = b.g.es) && decide (a.ar = b.ar)) := by
  unfold sameR R.g
  rw [Bool.eq_iff_iff]; simp [and_assoc]
 rw [hd]
 clear hd ha hb
 generalize decide (a.g.n = b.g.n ∧ a.g.es = b.g.es) = x at *
 obtain ⟨n, es, ar⟩ := a
 obtain ⟨n', es', ar'⟩ := b
 simp only [R.g] at hS hL ⊢
 generalize decide (ar = ar') = y at *
 refine ACall.of_body Tryz.func31 rfl (by kernel_rfl) ?_
 simp only [entry, Tryz.ntmps31, tR]
 refine zU ?_
 cases x with
 | true =>
  rw [Bool.true_and]
  refine zR trivial (zc hS (zc hL trivial)) trivial ?_
  simp [Rets, aret, Blk.cells, ty, Tryz.results31, ares, toT1, toT, borrow, borrow0, capCell, toTree0, tbool]
 | false =>
  rw [Bool.false_and]
  refine zR trivial (zc hS (zc hL trivial)) trivial ?_
  simp [Rets, aret, Blk.cells, ty, Tryz.results31, ares, toT1, toT, borrow, borrow0, capCell, toTree0, tbool]
end Go.Proofs.YtfkegnhpihoncaaGreat
