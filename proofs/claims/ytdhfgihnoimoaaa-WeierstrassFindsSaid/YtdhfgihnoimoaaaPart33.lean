/- A part of the proof. -/
import Derived.Test.YtdhfgihnoimoaaaPart32
import Derived.Test.YtdhfgihnoimoaaaPart25
import Derived.Test.YtdhfgihnoimoaaaLayerE
import Derived.Test.YtdhfgihnoimoaaaLayerC
import Derived.Test.YtdhfgihnoimoaaaLayerD
set_option linter.all false
set_option maxHeartbeats 4000000
set_option maxRecDepth 100000
namespace Go.Proofs.Ytdhfgihnoimoaaa
open Go.Sp
theorem ktForm : Try.prog.keyTypeAt 3 117 = true := by kernel_rfl
theorem tlForm : Try.prog.tiled 3 117 = true := by kernel_rfl
theorem wideForm : (match Try.prog.underlying 117 with | some (.array _ _) | some (.struct _) => true | _ => false) = true := by kernel_rfl
set_option maxRecDepth 100000 in
theorem klForm : KeyLaw Try.prog 117 (.ints 12) :=
 keyLaw_ints (m := 3) (by decide) ktForm tlForm wideForm (intsKeyA (it := 3) (by kernel_rfl) (by kernel_rfl) (by kernel_rfl) (by kernel_rfl) (by kernel_rfl) (of_decide_eq_true (by kernel_rfl)))
theorem mapForm : tMap Try.prog 114 = some (117, 3) := by simp only [ty]
def kp (R : List Int) : List Int := R ++ List.replicate (12 - R.length) 0
theorem kp_len {R : List Int} (h : R.length ≤ 12) : (kp R).length = 12 := by unfold kp; rw [List.length_append, List.length_replicate]; omega
theorem kp_inj {R R' : List Int} (hl : R.length = R'.length) (h : kp R = kp R') : R = R' := by
 unfold kp at h
 exact (List.append_inj h hl).1
theorem toKey_iC (l : List Int) : (iC l).mapM Go.Sp.intOf = some l := by
 induction l with
 | nil => rfl
 | cons x l ih => unfold iC at ih ⊢; rw [List.map_cons, List.mapM_cons, ih]; rfl
structure MOk (n : Nat) (es : List E) (N : Nat) (M : List (MKey × MV)) : Prop where
 ent : ∀ e, e ∈ M → ∃ R : List Int, R.length = n ∧ (∀ x, x ∈ R → 0 ≤ x ∧ x ≤ N) ∧ e = (.ints (kp R), .c (.int .i64 (rkD n (mulE es) fun v => R.getD v 0)))
 nd : (M.map (·.1)).Nodup
theorem MOk.nil (n : Nat) (es : List E) (N : Nat) : MOk n es N [] := ⟨fun e he => (by cases he), List.nodup_nil⟩
section
variable {n : Nat} {es : List E} {N : Nat} {M : List (MKey × MV)}
theorem MOk.len (h : MOk n es N M) : M.length ≤ (N + 1) ^ n := by
 have := List.Nodup.length_le_of_subset h.nd (l₂ := (allV n N).map fun R => MKey.ints (kp R)) (fun k hk => by
  obtain ⟨e, he, rfl⟩ := List.mem_map.1 hk
  obtain ⟨R, h1, h2, rfl⟩ := h.ent e he
  exact List.mem_map.2 ⟨R, mem_allV h1 h2, rfl⟩)
 rwa [List.length_map, List.length_map, allV_len] at this
theorem MOk.val (h : MOk n es N M) {R : List Int} (hR : R.length = n) {z : MV} (hh : mHas M (.ints (kp R)) = true) : mVal M (.ints (kp R)) z = .c (.int .i64 (rkD n (mulE es) fun v => R.getD v 0)) := by
 unfold mHas at hh
 obtain ⟨i, hi⟩ := Option.isSome_iff_exists.1 hh
 obtain ⟨v, hv⟩ := mIdx_some hi
 obtain ⟨R', h1, _, h3⟩ := h.ent _ (List.mem_of_getElem? hv)
 have hk : kp R = kp R' := by
  have := congrArg Prod.fst h3
  simpa using this
 have hr := kp_inj (by omega) hk
 subst hr
 have hv2 := congrArg Prod.snd h3
 simp only at hv2
 unfold mVal
 rw [hi]; simp [hv, hv2]
theorem mVal_none {k : MKey} {z : MV} (h : mHas M k = false) : mVal M k z = z := by
 unfold mHas at h
 unfold mVal
 cases hi : mIdx M k with
 | none => rfl
 | some i => rw [hi] at h; cases h
theorem mIdx_none {k : MKey} (h : mIdx M k = none) : k ∉ M.map (·.1) := fun hk => by
 unfold mIdx at h
 rw [List.findIdx?_eq_none_iff] at h
 obtain ⟨e, he, rfl⟩ := List.mem_map.1 hk
 have := h e he
 simp at this
theorem MOk.snoc (h : MOk n es N M) {R : List Int} (hR : R.length = n) (hx : ∀ x, x ∈ R → 0 ≤ x ∧ x ≤ N) (hn : mIdx M (.ints (kp R)) = none) : MOk n es N (M ++ [(.ints (kp R), .c (.int .i64 (rkD n (mulE es) fun v => R.getD v 0)))]) := by
 refine ⟨fun e he => ?_, ?_⟩
 ·rcases List.mem_append.1 he with he | he
  ·exact h.ent e he
  ·rw [List.mem_singleton] at he; exact ⟨R, hR, hx, he⟩
 ·rw [List.map_append, List.nodup_append]
  refine ⟨h.nd, by simp, fun a ha b hb => ?_⟩
  rw [List.map_singleton, List.mem_singleton] at hb
  subst hb
  intro e; rw [e] at ha
  exact mIdx_none hn ha
theorem MOk.room (h : MOk n es N M) {R : List Int} (hR : R.length = n) (hx : ∀ x, x ∈ R → 0 ≤ x ∧ x ≤ N) (hn : mHas M (.ints (kp R)) = false) : M.length < (N + 1) ^ n := by
 have hn' : mIdx M (.ints (kp R)) = none := by
  unfold mHas at hn
  cases hi : mIdx M (.ints (kp R)) with
  | none => rfl
  | some i => rw [hi] at hn; cases hn
 have := (h.snoc hR hx hn').len
 rw [List.length_append, List.length_singleton] at this
 omega
theorem MOk.put (h : MOk n es N M) {R : List Int} (hR : R.length = n) (hx : ∀ x, x ∈ R → 0 ≤ x ∧ x ≤ N) : MOk n es N (mPut M (.ints (kp R)) (.c (.int .i64 (rkD n (mulE es) fun v => R.getD v 0)))) := by
 unfold mPut
 cases hi : mIdx M (.ints (kp R)) with
 | none => exact h.snoc hR hx hi
 | some i =>
  have hh : mHas M (.ints (kp R)) = true := by unfold mHas; rw [hi]; rfl
  have hv := h.val hR (z := .c (.int .i64 0)) hh
  obtain ⟨v, hg⟩ := mIdx_some hi
  unfold mVal at hv
  rw [hi] at hv
  simp only [Option.bind_some, hg, Option.map_some, Option.getD_some] at hv
  rw [← hv]
  have : M.set i (.ints (kp R), v) = M := by
   apply List.ext_getElem?
   intro j
   rw [List.getElem?_set]
   by_cases e : i = j
   ·subst e
    rw [if_pos rfl, if_pos (List.getElem?_eq_some_iff.1 hg).1, hg]
   ·rw [if_neg e]
  simp only [this]
  exact h
theorem kp_ok {R : List Int} (hR : R.length ≤ 12) (hx : ∀ x, x ∈ R → 0 ≤ x ∧ x ≤ 2 ^ 40) : (KShape.ints 12).ok (.ints (kp R)) = true := by
 simp only [KShape.ok, Bool.and_eq_true, beq_iff_eq, List.all_eq_true, decide_eq_true_eq]
 refine ⟨kp_len hR, fun x hxm => ?_⟩
 unfold kp at hxm
 rcases List.mem_append.1 hxm with h | h
 ·have := hx x h; omega
 ·have := (List.mem_replicate.1 h).2; omega
theorem MOk.keys (h : MOk n es N M) (hn : n ≤ 12) (hN : (N : Int) ≤ 2 ^ 40) : ∀ e, e ∈ M → (KShape.ints 12).ok e.1 = true := fun e he => by
 obtain ⟨R, h1, h2, rfl⟩ := h.ent e he
 exact kp_ok (by omega) fun x hx => by have := h2 x hx; omega
end
theorem kp_store {R : List Int} (h : R.length ≤ 12) : setMany (iC (List.replicate 12 0)) 0 (iC R) = iC (kp R) := by
 have := iC_put [] R (12 - R.length)
 rw [show R.length + (12 - R.length) = 12 by omega] at this
 simpa [kp] using this
noncomputable def lstK (n : Nat) (es : List E) (R : List Int) (deg : Int) : Nat → Int
 | 0 => deg
 | k + 1 => min (lstK n es R deg k) (rkD n (mulE es) (fun v => (R.set k (R.getD k 0 - 1)).getD v 0) + 1)
theorem less_list {R : List Int} {n k : Nat} (hR : R.length = n) (hk : k < n) (v : Nat) : (R.set k (R.getD k 0 - 1)).getD v 0 = lessV (fun v => R.getD v 0) k v := by
 rw [getD_set_int _ _ _ _ (by omega)]
 unfold lessV
 by_cases e : v = k
 ·rw [if_pos e, if_pos e, e]
 ·rw [if_neg e, if_neg e, Int.sub_zero]
theorem lstK_ok {n : Nat} {es : List E} (hM : Mult n (mulE es)) (h0 : 0 < n) {R : List Int} (hR : R.length = n) (hw : win n (mulE es) fun v => R.getD v 0) : lstK n es R (sumD R n) n = rkD n (mulE es) fun v => R.getD v 0 := by
 obtain ⟨h1, v0, hv0, h2⟩ := rk_step hM h0 hw
 have hc : ∀ k, k < n → rkD n (mulE es) (fun v => (R.set k (R.getD k 0 - 1)).getD v 0) = rkD n (mulE es) (lessV (fun v => R.getD v 0) k) := fun k hk => rk_congr hM h0 fun v _ => less_list hR hk v
 have hd : rkD n (mulE es) (fun v => R.getD v 0) ≤ sumD R n := rk_deg hM h0 ((rk_win hM h0).2 hw)
 have lo : ∀ k, k ≤ n → rkD n (mulE es) (fun v => R.getD v 0) ≤ lstK n es R (sumD R n) k := fun k => by
  induction k with
  | zero => intro _; exact hd
  | succ k ih => intro hk; simp only [lstK]; have := ih (by omega); have := h1 k (by omega); rw [hc k (by omega)]; omega
 have up : ∀ k, k ≤ n → v0 < k → lstK n es R (sumD R n) k ≤ rkD n (mulE es) (fun v => R.getD v 0) := fun k => by
  induction k with
  | zero => intro _ h; omega
  | succ k ih =>
   intro hk hv
   simp only [lstK]
   by_cases e : v0 = k
   ·rw [hc k (by omega), ← e]; omega
   ·have := ih (by omega) (by omega); omega
 have := lo n (Nat.le_refl _)
 have := up n (Nat.le_refl _) hv0
 omega
theorem lstK_low {n : Nat} {es : List E} {R : List Int} {deg : Int} (hd : 0 ≤ deg) : ∀ k, 0 ≤ lstK n es R deg k ∧ lstK n es R deg k ≤ deg
 | 0 => ⟨hd, Int.le_refl _⟩
 | k + 1 => by
  have := lstK_low (n := n) (es := es) (R := R) hd k
  have := rk_low (n := n) (M := mulE es) fun v => (R.set k (R.getD k 0 - 1)).getD v 0
  simp only [lstK]; omega
theorem inB {B X : List Blk} {m : Nat} (hB : ∀ b, b ∈ B → ∀ m, blkIn m b) (hX : ∀ b, b ∈ X → blkIn m b) : blksIn m (B ++ X) := fun b hb => by
 rcases List.mem_append.1 hb with hb | hb
 ·exact hB b hb m
 ·exact hX b hb
structure RkC (n : Nat) (es : List E) (G B0 : Int) (N : Nat) : Prop where
 g : Gok n es
 gen : 2 * G = twoE n (mulE es) - 2 * n + 2
 gb : -(2 ^ 20) ≤ G ∧ G ≤ 2 ^ 20
 b1 : 1 ≤ B0
 b2 : 2 * G - 2 ≤ B0
 N1 : 2 * G - 2 ≤ N
 N2 : (N : Int) ≤ 2 ^ 20
 lim : (N + 1) ^ n ≤ 16384
 pw : ∃ Z : Int, 1 ≤ Z ∧ sizeE es ≤ Z ∧ powZ Z B0 (n - 1) + n * (n * B0) ≤ 1048576
theorem RkC.dok {n : Nat} {es : List E} {G B0 : Int} {N : Nat} (c : RkC n es G B0 N) {d : List Int} (hd : d.length = n) (hb : bndL B0 d) : Dok n es d := by
 obtain ⟨Z, z1, z2, z3⟩ := c.pw
 have h1 := c.b1
 have hn : (1 : Int) ≤ n := by have := c.g.h1; omega
 have hnb : 0 ≤ (n : Int) * B0 := Int.mul_nonneg (by omega) (by omega)
 refine ⟨hd, B0, Z, n * B0, by omega, hb, z1, z2, ?_, ?_, z3⟩
 ·rw [← sumR_const]
  exact sumR_le fun v _ => by have := hb v; omega
 ·have : 1 * ((n : Int) * B0) ≤ n * (n * B0) := Int.mul_le_mul_of_nonneg_right hn hnb
  omega
theorem iC_shB (k : Nat) (l : List Int) : (iC l).mapM (shCellB k) = some (iC l) := by
 induction l with
 | nil => rfl
 | cons x l ih =>
  unfold iC at ih ⊢
  rw [List.map_cons, List.mapM_cons, ih]; rfl
@[simp] theorem takeB6 (B : List Blk) (a b c d e f : Blk) : (B ++ [a, b, c, d, e, f]).take (B.length + 6) = B ++ [a, b, c, d, e, f] := List.take_of_length_le (by simp)
theorem rank_rec {n : Nat} {es es2 : List E} {G B0 : Int} {N : Nat} (c : RkC n es G B0 N) : ∀ (k : Nat) (d : List Int) (M : List (MKey × MV)) (B : List Blk) (x : ACell), MOk n es N M → d.length = n → bndL B0 d → (sumD d n + 1).toNat ≤ k →
  borrow (.box [.int .i64 (n : Int), .slice (eRows es) .none] :: .box [.int .i64 (n : Int), .slice (eRows es) .none] :: .box [.int .i64 (n : Int), .slice (eRows es2) .none] :: .map (M) :: .box [.int .i64 (n : Int), .slice (eRows es) .none, .int .i64 G, .map 3] :: (B)) x = some (.slice (iRows d)) → (∀ b, b ∈ B → ∀ m, blkIn m b) →
  ACallE Try.prog 66 (.box [.int .i64 (n : Int), .slice (eRows es) .none] :: .box [.int .i64 (n : Int), .slice (eRows es) .none] :: .box [.int .i64 (n : Int), .slice (eRows es2) .none] :: .map (M) :: .box [.int .i64 (n : Int), .slice (eRows es) .none, .int .i64 G, .map 3] :: (B)) [.c (.ptr 4 0), .c x] (fun H' r => ∃ M', MOk n es N M' ∧ H' = .box [.int .i64 (n : Int), .slice (eRows es) .none] :: .box [.int .i64 (n : Int), .slice (eRows es) .none] :: .box [.int .i64 (n : Int), .slice (eRows es2) .none] :: .map (M') :: .box [.int .i64 (n : Int), .slice (eRows es) .none, .int .i64 G, .map 3] :: (B) ∧ r = .tup [.c (.int .i64 (rkD n (mulE es) fun v => d.getD v 0)), .c (.int .i64 0)]) := by
 intro k
 induction k using Nat.strongRecOn with
 | ind k ih =>
 intro d M B x hMk hd hb hk hx hB
 have g := c.g
 have h1 := g.h1
 have h12 := g.h12
 have hM := g.hM
 have h0 : 0 < n := by omega
 refine (ACallE.trim (B.length + 5) (R := fun H2 r => ∃ M' X, MOk n es N M' ∧ H2 = .box [.int .i64 (n : Int), .slice (eRows es) .none] :: .box [.int .i64 (n : Int), .slice (eRows es) .none] :: .box [.int .i64 (n : Int), .slice (eRows es2) .none] :: .map (M') :: .box [.int .i64 (n : Int), .slice (eRows es) .none, .int .i64 G, .map 3] :: (B ++ X) ∧ r = .tup [.c (.int .i64 (rkD n (mulE es) fun v => d.getD v 0)), .c (.int .i64 0)]) ?_ (by simp) ?_).mono ?_
 rotate_left
 ·rintro H2 r ⟨M', X, hM', rfl, rfl⟩
  have e : (.box [.int .i64 (n : Int), .slice (eRows es) .none] :: .box [.int .i64 (n : Int), .slice (eRows es) .none] :: .box [.int .i64 (n : Int), .slice (eRows es2) .none] :: .map (M') :: .box [.int .i64 (n : Int), .slice (eRows es) .none, .int .i64 G, .map 3] :: (B ++ X)).take (B.length + 5) = .box [.int .i64 (n : Int), .slice (eRows es) .none] :: .box [.int .i64 (n : Int), .slice (eRows es) .none] :: .box [.int .i64 (n : Int), .slice (eRows es2) .none] :: .map (M') :: .box [.int .i64 (n : Int), .slice (eRows es) .none, .int .i64 G, .map 3] :: (B) := by simp
  rw [e]
  refine ⟨?_, fun y hy => ?_⟩
  ·intro b hbm
   simp only [List.mem_cons] at hbm
   rcases hbm with rfl | rfl | rfl | rfl | rfl | hbm
   ·intro c hc; simp only [List.mem_cons, List.not_mem_nil, or_false] at hc; rcases hc with rfl | rfl <;> exact True.intro
   ·intro c hc; simp only [List.mem_cons, List.not_mem_nil, or_false] at hc; rcases hc with rfl | rfl <;> exact True.intro
   ·intro c hc; simp only [List.mem_cons, List.not_mem_nil, or_false] at hc; rcases hc with rfl | rfl <;> exact True.intro
   ·exact True.intro
   ·intro c hc; simp only [List.mem_cons, List.not_mem_nil, or_false] at hc; rcases hc with rfl | rfl | rfl | rfl <;> first | exact True.intro | (show _ < _; omega)
   ·exact hB b hbm _
  ·simp only [List.mem_cons, List.not_mem_nil, or_false] at hy
   rcases hy with rfl | rfl <;> exact True.intro
 ·rintro H' r ⟨H2, ⟨M', X, hM', rfl, rfl⟩, rfl⟩
  exact ⟨M', hM', by simp, rfl⟩
 have hdb : bndL 1048576 d := (c.dok hd hb).small
 have hsb := sumR_bnd hdb n
 have hDeg : ACallH Try.prog 84 (.box [.int .i64 (n : Int), .slice (eRows es) .none] :: .box [.int .i64 (n : Int), .slice (eRows es) .none] :: .box [.int .i64 (n : Int), .slice (eRows es2) .none] :: .map (M) :: .box [.int .i64 (n : Int), .slice (eRows es) .none, .int .i64 G, .map 3] :: (B)) [.c x] (.box [.int .i64 (n : Int), .slice (eRows es) .none] :: .box [.int .i64 (n : Int), .slice (eRows es) .none] :: .box [.int .i64 (n : Int), .slice (eRows es2) .none] :: .map (M) :: .box [.int .i64 (n : Int), .slice (eRows es) .none, .int .i64 G, .map 3] :: (B)) (.tup [.c (.int .i64 (sumD d n)), .c (.int .i64 0)]) := by
  refine ACall.hb (cDegree_ok d n h1 h12 hd hdb) ?_ rfl
  simp only [List.mapM_cons, List.mapM_nil, toT, hx, Option.map_some]; rfl
 have hsum : -(12582912 : Int) ≤ sumD d n ∧ sumD d n ≤ 12582912 := by
  have : sumD d n = sumR (fun v => d.getD v 0) n := rfl
  rw [this]; omega
 have hgb := c.gb
 refine ACallE.of_body Try.func66 rfl (by kernel_rfl) ?_
 simp only [entry, Try.ntmps66, List.length_cons, List.length_nil, Nat.reduceAdd, Nat.reduceSub, List.replicate_succ, List.replicate_zero, List.cons_append, List.nil_append]
 by_cases hneg : sumD d n < 0
 ·have hr : rkD n (mulE es) (fun v => d.getD v 0) = -1 := by
   have hlo := rk_low (n := n) (M := mulE es) fun v => d.getD v 0
   have hnw : ¬ 0 ≤ rkD n (mulE es) (fun v => d.getD v 0) := fun h => by
    have := ((rk_win hM h0).1 h).deg hM
    have e : sumD d n = sumR (fun v => d.getD v 0) n := rfl
    omega
   omega
  rw [hr]
  refine zJ trivial (zc @hneg trivial) trivial (zc hDeg trivial) trivial ?_
  exact ⟨trivial, _, ⟨M, [], hMk, by rw [List.append_nil], rfl⟩, by simp [aretH, ares, noTup, Try.results66]⟩
 by_cases hbig : sumD d n > 2 * G - 2
 ·have hr : rkD n (mulE es) (fun v => d.getD v 0) = sumD d n - G := rk_large hM h0 c.gen hbig
  rw [hr]
  generalize sumD d n = sm at *
  refine zJ trivial (zc @hneg (zc @hbig trivial)) trivial (zc hDeg trivial) trivial ?_
  exact ⟨trivial, _, ⟨M, [], hMk, by rw [List.append_nil], rfl⟩, by simp [aretH, ares, noTup, Try.results66]⟩
 obtain ⟨b, R, S, w1, w2, w3, w4, w5, w6, w7, w8, w9, wB⟩ := Winnable_ok g (c.dok hd hb)
 have heq : eqvD n (mulE es) (fun v => d.getD v 0) (fun v => R.getD v 0) := ⟨fun u => S.getD u 0, fun v hv => w5 v hv⟩
 have hrk : rkD n (mulE es) (fun v => d.getD v 0) = rkD n (mulE es) (fun v => R.getD v 0) := rk_eqv hM h0 heq
 have hsR : sumD R n = sumD d n := heq.deg hM
 have hlen5 : (.box [.int .i64 (n : Int), .slice (eRows es) .none] :: .box [.int .i64 (n : Int), .slice (eRows es) .none] :: .box [.int .i64 (n : Int), .slice (eRows es2) .none] :: .map (M) :: .box [.int .i64 (n : Int), .slice (eRows es) .none, .int .i64 G, .map 3] :: (B)).length = B.length + 5 := by simp
 have hW : ACallH Try.prog 48 (.box [.int .i64 (n : Int), .slice (eRows es) .none] :: .box [.int .i64 (n : Int), .slice (eRows es) .none] :: .box [.int .i64 (n : Int), .slice (eRows es2) .none] :: .map (M) :: .box [.int .i64 (n : Int), .slice (eRows es) .none, .int .i64 G, .map 3] :: (B)) [.agg [.int .i64 (n : Int), .slice (eRows es) .none], .c x] ((.box [.int .i64 (n : Int), .slice (eRows es) .none] :: .box [.int .i64 (n : Int), .slice (eRows es) .none] :: .box [.int .i64 (n : Int), .slice (eRows es2) .none] :: .map (M) :: .box [.int .i64 (n : Int), .slice (eRows es) .none, .int .i64 G, .map 3] :: (B)) ++ [.dead, .dead, .dead, .box (iC R), .box (iC S)]) (.tup [.c (.bool b), .c (.ref (B.length + 8) 1 0 n n), .c (.ref (B.length + 9) 1 0 n n), .c (.int .i64 0)]) := by
  refine ACallH.frameB (ts := [tG ⟨(n : Int), es⟩, tints d]) (r' := .tup [.c (.bool b), .c (.ref (B.length + 8) 1 0 n n), .c (.ref (B.length + 9) 1 0 n n), .c (.int .i64 0)]) wB ?_ rfl (fun id hid => ?_) ?_
  ·simp only [List.mapM_cons, List.mapM_nil, toT, hx, Option.map_some]; rfl
  ·simp only [List.length_cons, List.length_nil, Nat.reduceAdd] at hid
   match id, hid with
   | 0, _ => exact .inr rfl
   | 1, _ => exact .inr rfl
   | 2, _ => exact .inr rfl
   | 3, _ => exact .inl ⟨_, _, rfl, iC_shB _ _, rfl⟩
   | 4, _ => exact .inl ⟨_, _, rfl, iC_shB _ _, rfl⟩
  ·rw [hlen5]; rfl
 simp only [List.cons_append] at hW
 clear wB w9
 cases b with
 | false =>
  have hr : rkD n (mulE es) (fun v => d.getD v 0) = -1 := by
   have hlo := rk_low (n := n) (M := mulE es) fun v => d.getD v 0
   have hnw : ¬ 0 ≤ rkD n (mulE es) (fun v => d.getD v 0) := fun h => by
    have := w1.2 ((rk_win hM h0).1 h)
    cases this
   omega
  rw [hr]
  generalize sumD d n = sm at *
  refine zJ trivial (zc @hneg (zc @hbig trivial)) trivial (zc hDeg (zc hW trivial)) trivial ?_
  exact ⟨trivial, _, ⟨M, [.dead, .dead, .dead, .box (iC R), .box (iC S)], hMk, rfl, rfl⟩, by simp [aretH, ares, noTup, Try.results66]⟩
 | true =>
  have hwd := w1.1 rfl
  have hwR : win n (mulE es) (fun v => R.getD v 0) := hwd.eqv heq
  have hR0 : 0 ≤ R.getD 0 0 := (red_win hM h0 w4).1 hwR
  have hRn : ∀ v, v < n → 0 ≤ R.getD v 0 := fun v hv => by
   by_cases e : v = 0
   ·rw [e]; exact hR0
   ·exact w4.1 v hv e
  have hRs : ∀ v, v < n → R.getD v 0 ≤ sumD d n := fun v hv => by rw [← hsR]; exact sumR_one_le (f := fun v => R.getD v 0) hRn hv
  have hN1 := c.N1
  have hN2 := c.N2
  have hRx : ∀ y, y ∈ R → 0 ≤ y ∧ y ≤ (N : Int) := fun y hy => by
   obtain ⟨i, hi, rfl⟩ := List.mem_iff_getElem.1 hy
   have h2 := hRn i (by omega)
   have h3 := hRs i (by omega)
   rw [List.getD_eq_getElem?_getD, List.getElem?_eq_getElem hi] at h2 h3
   simp only [Option.getD_some] at h2 h3
   omega
  have hkok := kp_ok (R := R) (by omega) (fun y hy => by have := hRx y hy; omega)
  have hkeys := hMk.keys h12 (by omega)
  have hkst := kp_store (R := R) (by omega)
  have hkl := kp_len (R := R) (by omega)
  have htoK := toKey_iC (kp R)
  rw [hrk]
  have eA : ∀ X : List Blk, (B ++ X)[B.length]? = X[0]? := fun X => by rw [List.getElem?_append_right (Nat.le_refl _), Nat.sub_self]
  have eA1 : ∀ (j : Nat) (X : List Blk), (B ++ X)[B.length + j]? = X[j]? := fun j X => by rw [List.getElem?_append_right (by omega)]; congr 1; omega
  have sA1 : ∀ (j : Nat) (X : List Blk) (b : Blk), (B ++ X).set (B.length + j) b = B ++ X.set j b := fun j X b => by rw [List.set_append_right _ _ (by omega), show B.length + j - B.length = j by omega]
  have hz12 : (iC (List.replicate 12 0)) = [.int .i64 0, .int .i64 0, .int .i64 0, .int .i64 0, .int .i64 0, .int .i64 0, .int .i64 0, .int .i64 0, .int .i64 0, .int .i64 0, .int .i64 0, .int .i64 0] := rfl
  rw [hz12] at hkst
  have hRl := w2
  have hany : ∀ c, c ∈ (iC R).take n → c ≠ .any := fun c hc => by
   have := List.mem_of_mem_take hc
   obtain ⟨y, _, rfl⟩ := List.mem_map.1 this
   simp
  have htk : (iC R).take n = iC R := List.take_of_length_le (by rw [iC_len]; omega)
  have hmn : Nat.min n 12 = n := Nat.min_eq_left h12
  repeat' ((fail_if_success (with_reducible refine AWp.atSeq 14 ?_));(fail_if_success (with_reducible refine AWp.atLast 14 ?_));first|((first|(refine zT ?_;intro K' hK')|(refine zG ?_ ?_<;>(try refine zH ?_)<;>intro hguard<;>(try exact zX)<;>try intro K' hK'))<;>((try simp +contextual only [go_sem, hneg, hbig]);(repeat' first|(with_reducible refine hK' _ _ ?_;clear hK' K')|((with_reducible first|refine ⟨_,_,hDeg,?_⟩|refine ⟨_,hDeg,?_⟩|refine ⟨_,_,hW,?_⟩|refine ⟨_,hW,?_⟩);try simp +contextual only [go_sem, hneg, hbig])|exact zY|with_reducible refine And.intro ?_ ?_|(with_reducible intro hpath;try exact zP)|(refine hK' _ _ ?_;clear hK' K')|fail);try refine zS ?_))|(refine zE ?_;refine hK _ _ ?_;clear hK K)|(refine zN ?_;try refine zS ?_)|refine zA ?_|(refine zB ?_;intro K hK)|(refine zC ?_ ?_<;>(try refine zH ?_)<;>intro hcond<;>try exact zX)|fail)
  simp only [Nat.add_assoc, Nat.reduceAdd, List.append_assoc, List.cons_append, List.nil_append]
  refine AWp.seq (AWp.of_reg ?_)
  refine AReg.step rfl rfl (step_slice_arr (n := 12) (e := 3) _ _ rfl (by simp only [ty]) (by simp only [ty]) (by decide) rfl) ?_
  refine AReg.step rfl rfl (step_move _ (.inl rfl)) ?_
  simp only [aput, List.set_cons_succ, List.set_cons_zero]
  have hjK : (.box [.int .i64 (n : Int), .slice (eRows es) .none] :: .box [.int .i64 (n : Int), .slice (eRows es) .none] :: .box [.int .i64 (n : Int), .slice (eRows es2) .none] :: .map (M) :: .box [.int .i64 (n : Int), .slice (eRows es) .none, .int .i64 G, .map 3] :: (B ++ [.dead, .dead, .dead, .box (iC R), .box (iC S), .box [.int .i64 0, .int .i64 0, .int .i64 0, .int .i64 0, .int .i64 0, .int .i64 0, .int .i64 0, .int .i64 0, .int .i64 0, .int .i64 0, .int .i64 0, .int .i64 0]]))[B.length + 10]? = some (.box [.int .i64 0, .int .i64 0, .int .i64 0, .int .i64 0, .int .i64 0, .int .i64 0, .int .i64 0, .int .i64 0, .int .i64 0, .int .i64 0, .int .i64 0, .int .i64 0]) := by
   simp only [List.getElem?_cons_succ, eA1]; rfl
  have hjR : (.box [.int .i64 (n : Int), .slice (eRows es) .none] :: .box [.int .i64 (n : Int), .slice (eRows es) .none] :: .box [.int .i64 (n : Int), .slice (eRows es2) .none] :: .map (M) :: .box [.int .i64 (n : Int), .slice (eRows es) .none, .int .i64 G, .map 3] :: (B ++ [.dead, .dead, .dead, .box (iC R), .box (iC S), .box [.int .i64 0, .int .i64 0, .int .i64 0, .int .i64 0, .int .i64 0, .int .i64 0, .int .i64 0, .int .i64 0, .int .i64 0, .int .i64 0, .int .i64 0, .int .i64 0]]))[B.length + 8]? = some (.box (iC R)) := by
   simp only [List.getElem?_cons_succ, eA1]; rfl
  refine AReg.step rfl rfl (step_copy_box (e := 3) (n := n) _ _ _ _ rfl (by simp only [ty]) (by simp only [ty]) rfl rfl hjK hjR hmn (by simp; omega) (by rw [iC_len]; omega) (by rw [List.drop_zero]; exact hany)) ?_
  clear hjK hjR
  simp only [List.drop_zero, htk, hkst, List.set_cons_succ, List.set_cons_zero, sA1]
  refine AReg.rest (fun K hK => ?_)
  have htk12 : (iC (kp R)).take 12 = iC (kp R) := List.take_of_length_le (by rw [iC_len, hkl]; exact Nat.le_refl _)
  cases hh : mHas M (.ints (kp R)) with
  | true =>
   have hval := hMk.val (z := .c (.int .i64 0)) w2 hh
   generalize rkD n (mulE es) (fun v => R.getD v 0) = rk at *
   repeat' ((fail_if_success (with_reducible refine AWp.atSeq 99 ?_));(fail_if_success (with_reducible refine AWp.atLast 99 ?_));first|((first|(refine zT ?_;intro K' hK')|(refine zG ?_ ?_<;>(try refine zH ?_)<;>intro hguard<;>(try exact zX)<;>try intro K' hK'))<;>((try simp +contextual only [go_sem, eA1, iC_len, hkl, htoK, hh, hval, htk12, List.drop_zero]);(repeat' first|(with_reducible refine hK' _ _ ?_;clear hK' K')|(refine ⟨_, klForm, hkok, hkeys, ?_⟩)|exact zY|with_reducible refine And.intro ?_ ?_|(with_reducible intro hpath;try exact zP)|(refine hK' _ _ ?_;clear hK' K')|fail);try refine zS ?_))|(refine zE ?_;refine hK _ _ ?_;clear hK K)|(refine zN ?_;try refine zS ?_)|refine zA ?_|(refine zB ?_;intro K hK)|(refine zC ?_ ?_<;>(try refine zH ?_)<;>intro hcond<;>try exact zX)|fail)
   exact ⟨trivial, _, ⟨M, _, hMk, rfl, rfl⟩, by simp [aretH, ares, noTup, Try.results66]⟩
  | false =>
   have hroom := hMk.room w2 hRx hh
   have hval := mVal_none (z := .c (.int .i64 0)) hh
   have hlim := c.lim
   have hml : ¬ ((M.length : Int) = 16384) := by omega
   have hls := lstK_ok hM h0 w2 hwR
   rw [hsR] at hls
   have hlow := fun j => lstK_low (n := n) (es := es) (R := R) (deg := sumD d n) (by omega) j
   have hlst1 : ∀ j, lstK n es R (sumD d n) (j + 1) = min (lstK n es R (sumD d n) j) (rkD n (mulE es) (fun v => (R.set j (R.getD j 0 - 1)).getD v 0) + 1) := fun j => rfl
   have hlst0 : lstK n es R (sumD d n) 0 = sumD d n := rfl
   have hb2 := c.b2
   have hb1 := c.b1
   repeat' (first|((with_reducible refine AWp.seq (AWp.of_reg (id:=18) (AReg.pre 4 (fun K hK=>?_))));simp only [List.take_succ_cons,List.take_zero])|((with_reducible refine AWp.of_reg (id:=18) (AReg.pre 4 (fun K hK=>?_)));simp only [List.take_succ_cons,List.take_zero])|((first|(refine zT ?_;intro K' hK')|(refine zG ?_ ?_<;>(try refine zH ?_)<;>intro hguard<;>(try exact zX)<;>try intro K' hK'))<;>((try simp +contextual only [go_sem, eA1, iC_len, hkl, htoK, hh, hval, htk12, List.drop_zero]);(repeat' first|(with_reducible refine hK' _ _ ?_;clear hK' K')|(refine ⟨_, klForm, hkok, hkeys, ?_⟩)|exact zY|with_reducible refine And.intro ?_ ?_|(with_reducible intro hpath;try exact zP)|(refine hK' _ _ ?_;clear hK' K')|fail);try refine zS ?_))|(refine zE ?_;refine hK _ _ ?_;clear hK K)|(refine zN ?_;try refine zS ?_)|refine zA ?_|(refine zB ?_;intro K hK)|(refine zC ?_ ?_<;>(try refine zH ?_)<;>intro hcond<;>try exact zX)|fail)
   simp only [List.drop_succ_cons, List.drop_zero]
   refine AReg.lenmap rfl rfl rfl mapForm rfl rfl ?_
   simp only [aput, List.set_cons_succ, List.set_cons_zero]
   refine AReg.rest (fun K hK => ?_)
   repeat' ((fail_if_success (with_reducible refine AWp.atSeq 99 ?_));(fail_if_success (with_reducible refine AWp.atLast 99 ?_));first|((first|(refine zT ?_;intro K' hK')|(refine zG ?_ ?_<;>(try refine zH ?_)<;>intro hguard<;>(try exact zX)<;>try intro K' hK'))<;>((try simp +contextual only [go_sem, hml]);(repeat' first|(with_reducible refine hK' _ _ ?_;clear hK' K')|exact zY|with_reducible refine And.intro ?_ ?_|(with_reducible intro hpath;try exact zP)|(refine hK' _ _ ?_;clear hK' K')|fail);try refine zS ?_))|(refine zE ?_;refine hK _ _ ?_;clear hK K)|(refine zN ?_;try refine zS ?_)|refine zA ?_|(refine zB ?_;intro K hK)|(refine zC ?_ ?_<;>(try refine zH ?_)<;>intro hcond<;>try exact zX)|fail)
   refine AWp.loopS (α:=(Nat × List (MKey × MV))) 117 (fun s=>[(0,.c (.ptr 4 0)),(9,.c (.ref (B.length + 8) 1 0 n n)),(11,.c (.ptr (B.length + 10) 0)),(14,.c (.int .i64 (lstK n es R (sumD d n) s.1))),(80,.c (.int .i64 (n : Int))),(81,.c (.int .i64 (s.1 : Int)))]) (fun s=>.box [.int .i64 (n : Int), .slice (eRows es) .none] :: .box [.int .i64 (n : Int), .slice (eRows es) .none] :: .box [.int .i64 (n : Int), .slice (eRows es2) .none] :: .map (s.2) :: .box [.int .i64 (n : Int), .slice (eRows es) .none, .int .i64 G, .map 3] :: (B ++ [.dead, .dead, .dead, .box (iC R), .box (iC S), .box (iC (kp R))])) (fun s=>s.1 ≤ n ∧ MOk n es N s.2) (fun s=>n - s.1) ((0, M)) (hk:=Weak.headL (B.length + 11) 117 [0, 9, 11, 14, 80, 81] (by (repeat' (first | exact valsIn_nil _ | exact blksIn_nil _ | exact cellsIn_nil _ | refine And.intro ?_ ?_ | refine valsIn_cons ?_ ?_ | refine blksIn_cons ?_ ?_ | refine cellsIn_cons ?_ ?_ | exact True.intro | exact iC_in | exact inB (by assumption) (by intro b hb; simp only [List.mem_cons, List.not_mem_nil, or_false] at hb; rcases hb with rfl | rfl | rfl | rfl | rfl | rfl <;> first | exact True.intro | exact iC_in) | (show _ < _; omega) | exact cellsIn_map (fun _ => True.intro) | (intro c hc; cases hc; done) | (intro c hc; simp only [List.mem_cons, List.not_mem_nil, or_false] at hc; subst hc; first | exact True.intro | exact iC_in | exact inB (by assumption) (by intro b hb; simp only [List.mem_cons, List.not_mem_nil, or_false] at hb; rcases hb with rfl | rfl | rfl | rfl | rfl | rfl <;> first | exact True.intro | exact iC_in) | (show _ < _; omega)) | (intro c hc; simp only [List.mem_cons, List.not_mem_nil, or_false] at hc; rcases hc with rfl | rfl <;> first | exact True.intro | exact iC_in | exact inB (by assumption) (by intro b hb; simp only [List.mem_cons, List.not_mem_nil, or_false] at hb; rcases hb with rfl | rfl | rfl | rfl | rfl | rfl <;> first | exact True.intro | exact iC_in) | (show _ < _; omega)))))) (h0:=?_) (round:=fun s hI=>?_)
   ·exact ⟨Nat.zero_le _, hMk⟩
   ·obtain ⟨v, M1⟩ := s
    obtain ⟨hv, hM1⟩ := hI
    simp only at hv hM1 ⊢
    by_cases hvl : v < n
    ·have hvI : (v : Int) < (n : Int) := by omega
     have g1 := iC_get (getD_get (d := R) (i := v) (by omega))
     have x1 := hRn v hvl
     have x2 := hRs v hvl
     have hsum1 : sumD (R.set v (R.getD v 0 - 1)) n = sumD d n - 1 := by
      rw [← hsR]
      have := sumR_lessV (fun v => R.getD v 0) (n := n) hvl
      have e : sumD (R.set v (R.getD v 0 - 1)) n = sumR (lessV (fun v => R.getD v 0) v) n := sumR_congr fun u _ => less_list w2 hvl u
      rw [e, this]; rfl
     have hbn : bndL B0 (R.set v (R.getD v 0 - 1)) := bndL_set (fun u => by
      by_cases hu : u < n
      ·have := hRn u hu; have := hRs u hu; omega
      ·rw [List.getD_eq_getElem?_getD, List.getElem?_eq_none (by omega)]; simp; omega) v (by omega)
     have hl1 := hlst1 v
     have hlw := hlow v
     have hst := iC_set R v (R.getD v 0 - 1)
     have hlen1 : (R.set v (R.getD v 0 - 1)).length = n := by rw [List.length_set]; exact w2
     have hst2 := iC_set (R.set v (R.getD v 0 - 1)) v (R.getD v 0)
     have hback : (R.set v (R.getD v 0 - 1)).set v (R.getD v 0) = R := by
      rw [List.set_set]
      apply List.ext_getElem?
      intro j
      rw [List.getElem?_set]
      by_cases e : v = j
      ·subst e; rw [if_pos rfl, if_pos (by omega)]; exact (getD_get (by omega)).symm
      ·rw [if_neg e]
     rw [hback] at hst2
     have g2 : (iC (R.set v (R.getD v 0 - 1)))[v]? = some (.int .i64 (R.getD v 0 - 1)) := by rw [← hst]; exact List.getElem?_set_self (by rw [iC_len]; omega)
     have hrl := rk_low (n := n) (M := mulE es) (fun u => (R.set v (R.getD v 0 - 1)).getD u 0)
     have hru : rkD n (mulE es) (fun u => (R.set v (R.getD v 0 - 1)).getD u 0) ≤ 12582912 := by
      by_cases h : 0 ≤ rkD n (mulE es) (fun u => (R.set v (R.getD v 0 - 1)).getD u 0)
      ·have h2 := rk_deg hM h0 h
       have e : sumD (R.set v (R.getD v 0 - 1)) n = sumR (fun u => (R.set v (R.getD v 0 - 1)).getD u 0) n := rfl
       omega
      ·omega
     generalize R.getD v 0 = y at *
     have hy1 : y - 1 + 1 = y := by omega
     have hrec := fun (hbw) => ih (k - 1) (by omega) (R.set v (y - 1)) M1 (B ++ [.dead, .dead, .dead, .box (iC (R.set v (y - 1))), .box (iC S), .box (iC (kp R))]) (.ref (B.length + 8) 1 0 n n) hM1 hlen1 hbn (by omega) hbw (fun b hb m => by
      rcases List.mem_append.1 hb with hb | hb
      ·exact hB b hb m
      ·simp only [List.mem_cons, List.not_mem_nil, or_false] at hb
       rcases hb with rfl | rfl | rfl | rfl | rfl | rfl
       ·exact True.intro
       ·exact True.intro
       ·exact True.intro
       ·exact iC_in
       ·exact iC_in
       ·exact iC_in)
     have hrec2 := hrec (iC_ref hlen1 (by simp only [List.getElem?_cons_succ, eA1]; rfl))
     clear hrec hbn hsum1 ih
     have hrkn : ∀ z, rkD n (mulE es) (fun u => (R.set v (y - 1)).getD u 0) = z → z = rkD n (mulE es) (fun u => (R.set v (y - 1)).getD u 0) := fun z h => h.symm
     generalize hR1 : R.set v (y - 1) = R1 at *
     generalize rkD n (mulE es) (fun u => R1.getD u 0) = rk1 at *
     clear hrkn
     generalize hL1 : lstK n es R (sumD d n) (v + 1) = l1 at *
     generalize lstK n es R (sumD d n) v = l0 at *
     repeat' (first|((with_reducible refine AWp.seq (AWp.of_reg (id:=25) (AReg.pre 2 (fun K hK=>?_))));simp only [List.take_succ_cons,List.take_zero])|((with_reducible refine AWp.of_reg (id:=25) (AReg.pre 2 (fun K hK=>?_)));simp only [List.take_succ_cons,List.take_zero])|((first|(refine zT ?_;intro K' hK')|(refine zG ?_ ?_<;>(try refine zH ?_)<;>intro hguard<;>(try exact zX)<;>try intro K' hK'))<;>((try simp +contextual only [go_sem, hvI, eA1, sA1, g1, hst, iC_len, w2, Int.toNat_natCast, Nat.mul_one, Nat.zero_add]);(repeat' first|(with_reducible refine hK' _ _ ?_;clear hK' K')|exact zY|with_reducible refine And.intro ?_ ?_|(with_reducible intro hpath;try exact zP)|(refine hK' _ _ ?_;clear hK' K')|fail);try refine zS ?_))|(refine zE ?_;refine hK _ _ ?_;clear hK K)|(refine zN ?_;try refine zS ?_)|refine zA ?_|(refine zB ?_;intro K hK)|(refine zC ?_ ?_<;>(try refine zH ?_)<;>intro hcond<;>try exact zX)|fail)
     simp only [List.drop_succ_cons, List.drop_zero]
     refine AReg.callE rfl rfl rfl rfl hrec2 (fun H' r hr => ?_)
     obtain ⟨M2, hM2, rfl, rfl⟩ := hr
     simp only [aput, List.set_cons_succ, List.set_cons_zero]
     refine AReg.rest (fun K hK => ?_)
     repeat' (first|((first|(refine zT ?_;intro K' hK')|(refine zG ?_ ?_<;>(try refine zH ?_)<;>intro hguard<;>(try exact zX)<;>try intro K' hK'))<;>((try simp +contextual only [go_sem, hvI, eA1, sA1, g2, hst2, hy1, iC_len, hlen1, Int.toNat_natCast, Nat.mul_one, Nat.zero_add]);(repeat' first|(with_reducible refine hK' _ _ ?_;clear hK' K')|exact zY|with_reducible refine And.intro ?_ ?_|(with_reducible intro hpath;try exact zP)|(refine hK' _ _ ?_;clear hK' K')|fail);try refine zS ?_))|(refine zE ?_;refine hK _ _ ?_;clear hK K)|(refine zN ?_;try refine zS ?_)|refine zA ?_|(refine zB ?_;intro K hK)|(refine zC ?_ ?_<;>(try refine zH ?_)<;>intro hcond<;>try exact zX)|fail)
     refine ⟨(v + 1, M2),Weak.headF (B.length + 11) 117 [0, 9, 11, 14, 80, 81] (zc @hL1 (zc @hl1 trivial)) (by (repeat' (first | exact valsIn_nil _ | exact blksIn_nil _ | exact cellsIn_nil _ | refine And.intro ?_ ?_ | refine valsIn_cons ?_ ?_ | refine blksIn_cons ?_ ?_ | refine cellsIn_cons ?_ ?_ | exact True.intro | exact iC_in | exact inB (by assumption) (by intro b hb; simp only [List.mem_cons, List.not_mem_nil, or_false] at hb; rcases hb with rfl | rfl | rfl | rfl | rfl | rfl <;> first | exact True.intro | exact iC_in) | (show _ < _; omega) | exact cellsIn_map (fun _ => True.intro) | (intro c hc; cases hc; done) | (intro c hc; simp only [List.mem_cons, List.not_mem_nil, or_false] at hc; subst hc; first | exact True.intro | exact iC_in | exact inB (by assumption) (by intro b hb; simp only [List.mem_cons, List.not_mem_nil, or_false] at hb; rcases hb with rfl | rfl | rfl | rfl | rfl | rfl <;> first | exact True.intro | exact iC_in) | (show _ < _; omega)) | (intro c hc; simp only [List.mem_cons, List.not_mem_nil, or_false] at hc; rcases hc with rfl | rfl <;> first | exact True.intro | exact iC_in | exact inB (by assumption) (by intro b hb; simp only [List.mem_cons, List.not_mem_nil, or_false] at hb; rcases hb with rfl | rfl | rfl | rfl | rfl | rfl <;> first | exact True.intro | exact iC_in) | (show _ < _; omega))))),?_,?_⟩
     ·exact ⟨hvl, hM2⟩
     ·simp only; omega
    ·have hnl : ¬ (v : Int) < (n : Int) := by omega
     have ev : v = n := by omega
     rw [ev, hls]
     rw [ev] at hnl
     have hput := hM1.put w2 hRx
     have hkeys1 := hM1.keys h12 (by omega)
     generalize rkD n (mulE es) (fun v => R.getD v 0) = rk at *
     repeat' ((fail_if_success (with_reducible refine AWp.atSeq 99 ?_));(fail_if_success (with_reducible refine AWp.atLast 99 ?_));first|((first|(refine zT ?_;intro K' hK')|(refine zG ?_ ?_<;>(try refine zH ?_)<;>intro hguard<;>(try exact zX)<;>try intro K' hK'))<;>((try simp +contextual only [go_sem, hnl, eA1, iC_len, hkl, htoK, htk12, List.drop_zero]);(repeat' first|(with_reducible refine hK' _ _ ?_;clear hK' K')|(refine ⟨_, klForm, hkok, hkeys1, ?_⟩)|exact zY|with_reducible refine And.intro ?_ ?_|(with_reducible intro hpath;try exact zP)|(refine hK' _ _ ?_;clear hK' K')|fail);try refine zS ?_))|(refine zE ?_;refine hK _ _ ?_;clear hK K)|(refine zN ?_;try refine zS ?_)|refine zA ?_|(refine zB ?_;intro K hK)|(refine zC ?_ ?_<;>(try refine zH ?_)<;>intro hcond<;>try exact zX)|fail)
     exact ⟨trivial, _, ⟨mPut M1 (.ints (kp R)) (.c (.int .i64 rk)), _, hput, rfl, rfl⟩, by simp [aretH, ares, noTup, Try.results66]⟩
theorem limL_filter {es : List E} (hm : ∀ e, e ∈ es → e.m ≤ 50) : limL 50 es = es.filter fun e => decide (e.a ≠ e.b) := by
 induction es with
 | nil => rfl
 | cons e es ih =>
  have ih' := ih fun x hx => hm x (by simp [hx])
  have h1 := hm e (by simp)
  unfold limL at ih' ⊢
  rw [List.flatMap_cons, ih']
  unfold limE
  by_cases h : e.a = e.b
  ·rw [if_pos h, List.filter_cons, if_neg (by simpa using h)]; rfl
  ·rw [if_neg h, List.filter_cons, if_pos (by simpa using h), show min e.m 50 = e.m by omega]; rfl
theorem endsL_filter : ∀ {es : List E}, (∀ e, e ∈ es → 0 ≤ e.m) → ((endsL (es.filter fun e => decide (e.a ≠ e.b))).length : Int) = sizeE es
 | [], _ => rfl
 | e :: es, h => by
  have ih := endsL_filter (es := es) fun x hx => h x (by simp [hx])
  have h1 := h e (by simp)
  simp only [sizeE]
  rw [List.filter_cons]
  by_cases hab : e.a = e.b
  ·rw [if_neg (by simpa using hab), if_neg (by simpa using hab), ih]; omega
  ·rw [if_pos (by simpa using hab), if_pos hab, endsL_cons, List.length_append, List.length_replicate, Int.natCast_add, ih]; omega
theorem conn_filter {es : List E} {u v : Nat} (h : Conn (endsL es) u v) : Conn (endsL (es.filter fun e => decide (e.a ≠ e.b))) u v := by
 have hin : ∀ {p : Int × Int}, p ∈ endsL es → p.1 ≠ p.2 → p ∈ endsL (es.filter fun e => decide (e.a ≠ e.b)) := fun {p} hp hne => by
  unfold endsL at hp ⊢
  obtain ⟨e, he, hr⟩ := List.mem_flatMap.1 hp
  have := List.eq_of_mem_replicate hr
  subst this
  exact List.mem_flatMap.2 ⟨e, List.mem_filter.2 ⟨he, by simpa using hne⟩, hr⟩
 induction h with
 | refl => exact .refl
 | step hp hs ih =>
  rename_i y z
  by_cases e : y = z
  ·rw [← e]; exact ih
  ·refine .step ih ?_
   rcases hs with hs | hs
   ·exact .inl (hin hs (by simp only; omega))
   ·exact .inr (hin hs (by simp only; omega))
theorem conn_unfilter {es : List E} {u v : Nat} (h : Conn (endsL (es.filter fun e => decide (e.a ≠ e.b))) u v) : Conn (endsL es) u v := by
 induction h with
 | refl => exact .refl
 | step hp hs ih =>
  have hin : ∀ {p : Int × Int}, p ∈ endsL (es.filter fun e => decide (e.a ≠ e.b)) → p ∈ endsL es := fun {p} hp => by
   unfold endsL at hp ⊢
   obtain ⟨e, he, hr⟩ := List.mem_flatMap.1 hp
   exact List.mem_flatMap.2 ⟨e, (List.mem_filter.1 he).1, hr⟩
  exact .step ih (hs.imp hin hin)
theorem gok_of {n : Nat} {es : List E} (hl : es.length ≤ 40) (hc : checkG ⟨(n : Int), es⟩ = 0) (hcn : connB ⟨(n : Int), es⟩ = true) : Gok n es := by
 have h := checkG_zero.1 hc
 obtain ⟨h1, h2⟩ := mult_of (g := ⟨(n : Int), es⟩) hc rfl hcn
 have h3 := h.1
 simp only at h3
 exact ⟨by omega, by omega, hl, h1, fun e he => by have := h.2.1 e he; unfold okE at this; exact this.2.2.2.1, h2, hc, hcn⟩
theorem lim_ok {n : Nat} {es : List E} (g : Gok n es) : ∃ es2 : List E, es2.length ≤ es.length ∧ limG ⟨(n : Int), es⟩ 50 = ⟨(n : Int), es2⟩ ∧ checkG ⟨(n : Int), es2⟩ = 0 ∧ genL (endsL es2) = sizeE es - n + 1 ∧ connB ⟨(n : Int), es2⟩ = true := by
 have h := checkG_zero.1 g.hc
 have hm : ∀ e, e ∈ es → e.m ≤ 50 := fun e he => by have := h.2.1 e he; unfold okE at this; exact this.2.2.2.2
 refine ⟨es.filter fun e => decide (e.a ≠ e.b), List.length_filter_le _ _, ?_, ?_⟩
 ·unfold limG
  rw [if_neg (by have := g.hc; omega)]
  show (⟨(n : Int), limL 50 es⟩ : G) = _
  rw [limL_filter hm]
 ·have hc2 : checkG ⟨(n : Int), es.filter fun e => decide (e.a ≠ e.b)⟩ = 0 := checkG_zero.2 ⟨h.1, fun e he => h.2.1 e (List.mem_filter.1 he).1, h.2.2.sublist List.filter_sublist⟩
  have hconn : Conn (endsL (es.filter fun e => decide (e.a ≠ e.b))) = Conn (endsL es) := by
   funext u v
   exact propext ⟨conn_unfilter, conn_filter⟩
  have h1 := conn_parts (g := ⟨(n : Int), es⟩) g.hc rfl
  have h2 := conn_parts (g := ⟨(n : Int), es.filter fun e => decide (e.a ≠ e.b)⟩) hc2 rfl
  simp only [hconn] at h2
  have hcb : connB ⟨(n : Int), es.filter fun e => decide (e.a ≠ e.b)⟩ = true := by rw [h2, ← h1]; exact g.hcc
  refine ⟨hc2, ?_, hcb⟩
  have hg := genus_eq (g := ⟨(n : Int), es.filter fun e => decide (e.a ≠ e.b)⟩) (n := n) hc2 rfl
  have hp : partsN (es.filter fun e => decide (e.a ≠ e.b)) n n = 1 := by
   unfold connB at hcb
   rw [decide_eq_true_eq] at hcb
   simpa using hcb
  simp only [hp] at hg
  rw [hg, endsL_filter fun e he => by have := h.2.1 e he; unfold okE at this; omega]
  omega
theorem sizeE_ends : ∀ {es : List E}, (∀ e, e ∈ es → 0 ≤ e.m) → 0 ≤ sizeE es ∧ sizeE es ≤ (endsL es).length
 | [], _ => ⟨Int.le_refl _, Int.le_refl _⟩
 | e :: es, h => by
  have ih := sizeE_ends (es := es) fun x hx => h x (by simp [hx])
  have h1 := h e (by simp)
  simp only [sizeE]
  rw [endsL_cons, List.length_append, List.length_replicate, Int.natCast_add]
  split <;> omega
theorem gen_pos {n : Nat} {es : List E} (g : Gok n es) : 0 ≤ sizeE es - n + 1 := by
 obtain ⟨es2, _, _, hc2, hg, _⟩ := lim_ok g
 have h := checkG_zero.1 hc2
 have h12 := g.h12
 have := (genS_ok (l := endsL es2) fun p hp => by
  obtain ⟨e, he, q⟩ := endsL_mem hp
  have hr := h.2.1 e he
  unfold okE at hr
  simp only at hr
  subst q
  simp only
  omega).2.1
 unfold genL at hg
 omega
theorem sizeE_one {es : List E} (h : EsOk 1 es) : sizeE es = 0 := by
 induction es with
 | nil => rfl
 | cons e es ih =>
  have := h.rng e (by simp)
  simp only [sizeE]
  rw [if_neg (by omega), ih h.tail]; rfl
theorem rkc_of {n : Nat} {es : List E} (g : Gok n es) (hn : n ≤ 5) (hs : (endsL es).length ≤ 7) : RkC n es (sizeE es - n + 1) 110 (2 * (sizeE es - n + 1) - 2).toNat := by
 have h1 := g.h1
 have hg := gen_pos g
 have hz := sizeE_ends (es := es) fun e he => by have := g.hm1 e he; omega
 have hz1 : n = 1 → sizeE es = 0 := fun e => by subst e; exact sizeE_one g.hE
 refine ⟨g, by rw [sizeE_two g.hE]; omega, by omega, by decide, by omega, by omega, by omega, ?_, 7, by decide, by omega, ?_⟩
 ·generalize hN : (2 * (sizeE es - n + 1) - 2).toNat = N
  have h5 : n = 1 ∨ n = 2 ∨ n = 3 ∨ n = 4 ∨ n = 5 := by omega
  rcases h5 with rfl | rfl | rfl | rfl | rfl
  ·have hN2 : N + 1 ≤ 13 := by omega
   exact Nat.le_trans (Nat.pow_le_pow_left hN2 1) (by decide)
  ·have hN2 : N + 1 ≤ 11 := by omega
   exact Nat.le_trans (Nat.pow_le_pow_left hN2 2) (by decide)
  ·have hN2 : N + 1 ≤ 9 := by omega
   exact Nat.le_trans (Nat.pow_le_pow_left hN2 3) (by decide)
  ·have hN2 : N + 1 ≤ 7 := by omega
   exact Nat.le_trans (Nat.pow_le_pow_left hN2 4) (by decide)
  ·have hN2 : N + 1 ≤ 5 := by omega
   exact Nat.le_trans (Nat.pow_le_pow_left hN2 5) (by decide)
 ·have h5 : n = 1 ∨ n = 2 ∨ n = 3 ∨ n = 4 ∨ n = 5 := by omega
  rcases h5 with rfl | rfl | rfl | rfl | rfl <;> decide
end Go.Proofs.Ytdhfgihnoimoaaa
