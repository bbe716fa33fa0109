/- A part of the proof. -/
import Derived.Test.YtgklecfiflhjmaaPart33
import Derived.Test.YtgklecfiflhjmaaLayerC
import Derived.Test.YtgklecfiflhjmaaPart10
import Derived.Test.YtgklecfiflhjmaaPart13
set_option linter.all false
set_option maxHeartbeats 4000000
set_option maxRecDepth 100000
namespace Go.Proofs.Ytgklecfiflhjmaa
open Go.Sp
structure TF (F : List Nat) (rt dp : Nat → Nat) : Prop where
 len : F.length = 12
 lt : ∀ i (h : i < F.length), F[i] < 12
 same : ∀ i (h : i < F.length), rt F[i] = rt i
 self : ∀ i (h : i < F.length), F[i] = i → rt i = i
 down : ∀ i (h : i < F.length), F[i] ≠ i → dp F[i] < dp i
 rlt : ∀ i, i < 12 → rt i < 12
 fix : ∀ i, i < 12 → F[rt i]? = some (rt i)
section
variable {F : List Nat} {rt dp : Nat → Nat}
end
structure TC (L : List (Int × Int)) (F : List Nat) (rt dp : Nat → Nat) : Prop where
 tf : TF F rt dp
 conn : ∀ u w, u < 12 → w < 12 → (rt u = rt w ↔ Conn L u w)
def InN (n : Nat) (M : List (Int × Int)) : Prop := ∀ p, p ∈ M → (0 ≤ p.1 ∧ p.1 < n) ∧ (0 ≤ p.2 ∧ p.2 < n)
def pkL (L : List (Int × Int)) (t : List Int) : List (Int × Int) := t.map fun x => L.getD x.toNat (0, 0)
theorem pkL_len (L : List (Int × Int)) (t : List Int) : (pkL L t).length = t.length := by simp [pkL]
theorem pkL_in {n : Nat} {L : List (Int × Int)} {t : List Int} (hL : InN n L) (ht : ∀ x, x ∈ t → 0 ≤ x ∧ x < L.length) : InN n (pkL L t) := fun p hp => by
 obtain ⟨x, hx, rfl⟩ := List.mem_map.1 hp
 have := ht x hx
 rw [List.getD_eq_getElem?_getD, List.getElem?_eq_getElem (by omega)]
 exact hL _ (List.getElem_mem _)
theorem subE_range {n : Int} : ∀ {p : Option Int} {l : List Int}, subE n p l = 0 → ∀ x, x ∈ l → 0 ≤ x ∧ x < n
 | _, [], _, x, hx => by cases hx
 | p, v :: l, h, x, hx => by
  rw [subE] at h
  by_cases hv : 0 ≤ v ∧ v < n
  ·rw [if_neg (by omega)] at h
   split at h
   ·omega
   ·rcases List.mem_cons.1 hx with rfl | hx
    ·exact hv
    ·exact subE_range h x hx
  ·rw [if_pos hv] at h; omega
theorem SameInts_ok (a b : List Int) (ha : a.length < 2 ^ 40) (hb : b.length < 2 ^ 40) : ACall Try.prog 53 [tints a, tints b] (tbool (decide (a = b))) := by
 refine ACall.of_body Try.func53 rfl (by kernel_rfl) ?_
 simp only [entry, Try.ntmps53, tints]
 refine zU ?_
 by_cases hlen : a.length = b.length
 case neg =>
  have hI : ¬ ((a.length : Int) = b.length) := by omega
  rw [decide_eq_false (fun e => hlen (by rw [e]))]
  refine zR (zc @iRows_len (zc @hI trivial)) trivial trivial ?_
  simp [Rets, aret, Blk.cells, ty, Try.results53, ares, toT1, toT, borrow, borrow0, capCell, toTree0, tbool]
 have hI : ((a.length : Int) = b.length) := by omega
 refine zR (zc @iRows_len (zc @hI trivial)) trivial trivial ?_
 refine AWp.loopS (α:=Nat) 26 (fun i=>[(0,.c (.slice (iRows a) .none)),(1,.c (.slice (iRows b) .none)),(5,.c (.int .i64 (i : Int)))]) (fun i=>[]) (fun i=>i ≤ b.length ∧ a.take i = b.take i) (fun i=>b.length - i) (0) (hk:=Weak.headL 0 26 [0, 1, 5] zW) (h0:=?_) (round:=fun i hI=>?_)
 ·exact ⟨Nat.zero_le _, rfl⟩
 ·obtain ⟨hi, hI2⟩ := hI
  by_cases hlt : i < b.length
  ·have hltI : (i : Int) < b.length := by omega
   have hia : i < a.length := by omega
   have e0 := List.getElem?_eq_getElem hia
   have f0 := List.getElem?_eq_getElem hlt
   have e1 := iRows_get e0
   have f1 := iRows_get f0
   have t1 : a.take (i + 1) = a.take i ++ [a[i]] := List.take_succ_eq_append_getElem hia
   have t2 : b.take (i + 1) = b.take i ++ [b[i]] := List.take_succ_eq_append_getElem hlt
   generalize a[i] = x at *
   generalize b[i] = y at *
   by_cases hxy : x = y
   ·subst hxy
    refine zR (zc @hltI (zc @iRows_len (zc @hI (zc @e1 (zc @f1 trivial))))) trivial trivial ?_
    refine ⟨i + 1,Weak.headN 0 26 [0, 1, 5] zW,?_,?_⟩
    ·exact ⟨hlt, by rw [t1, t2, hI2]⟩
    ·omega
   ·rw [decide_eq_false (fun e => hxy (by subst e; rw [e0] at f0; exact Option.some.inj f0))]
    refine zR (zc @hltI (zc @iRows_len (zc @hI (zc @e1 (zc @f1 (zc @hxy trivial)))))) trivial trivial ?_
    simp [Rets, aret, Blk.cells, ty, Try.results53, ares, toT1, toT, borrow, borrow0, capCell, toTree0, tbool]
  ·have ei : i = b.length := by omega
   have hab : a = b := by
    rw [List.take_of_length_le (by omega), List.take_of_length_le (by omega)] at hI2
    exact hI2
   rw [decide_eq_true hab]
   have hnl : ¬ ((i : Int) < b.length) := by omega
   refine zR (zc @hnl (zc @iRows_len (zc @hI trivial))) trivial trivial ?_
   simp [Rets, aret, Blk.cells, ty, Try.results53, ares, toT1, toT, borrow, borrow0, capCell, toTree0, tbool]
theorem SameLists_ok (a b : List (List Int)) (ha : a.length < 2 ^ 40) (hb : b.length < 2 ^ 40) (hal : ∀ l, l ∈ a → l.length < 2 ^ 40) (hbl : ∀ l, l ∈ b → l.length < 2 ^ 40) :
  ACall Try.prog 19 [tlists a, tlists b] (tbool (decide (a = b))) := by
 refine ACall.of_body Try.func19 rfl (by kernel_rfl) ?_
 simp only [entry, Try.ntmps19, tlists]
 refine zU ?_
 by_cases hlen : a.length = b.length
 case neg =>
  have hI : ¬ ((a.length : Int) = b.length) := by omega
  rw [decide_eq_false (fun e => hlen (by rw [e]))]
  refine zR (zc @llRows_len (zc @hI trivial)) trivial trivial ?_
  simp [Rets, aret, Blk.cells, ty, Try.results19, ares, toT1, toT, borrow, borrow0, capCell, toTree0, tbool]
 have hI : ((a.length : Int) = b.length) := by omega
 refine zR (zc @llRows_len (zc @hI trivial)) trivial trivial ?_
 refine AWp.loopS (α:=Nat) 27 (fun i=>[(0,.c (.slice (llRows a) .none)),(1,.c (.slice (llRows b) .none)),(5,.c (.int .i64 (i : Int)))]) (fun i=>[]) (fun i=>i ≤ b.length ∧ a.take i = b.take i) (fun i=>b.length - i) (0) (hk:=Weak.headL 0 27 [0, 1, 5] zW) (h0:=?_) (round:=fun i hI=>?_)
 ·exact ⟨Nat.zero_le _, rfl⟩
 ·obtain ⟨hi, hI2⟩ := hI
  by_cases hlt : i < b.length
  ·have hltI : (i : Int) < b.length := by omega
   have hia : i < a.length := by omega
   have e0 := List.getElem?_eq_getElem hia
   have f0 := List.getElem?_eq_getElem hlt
   have e1 := llRows_get e0
   have f1 := llRows_get f0
   have hE := SameInts_ok a[i] b[i] (hal _ (List.getElem_mem hia)) (hbl _ (List.getElem_mem hlt))
   have t1 : a.take (i + 1) = a.take i ++ [a[i]] := List.take_succ_eq_append_getElem hia
   have t2 : b.take (i + 1) = b.take i ++ [b[i]] := List.take_succ_eq_append_getElem hlt
   generalize a[i] = x at *
   generalize b[i] = y at *
   by_cases hxy : x = y
   ·rw [decide_eq_true hxy] at hE
    refine zR (zc @hltI (zc @llRows_len (zc @hI (zc @e1 (zc @f1 trivial))))) (zc hE trivial) trivial ?_
    refine ⟨i + 1,Weak.headN 0 27 [0, 1, 5] zW,?_,?_⟩
    ·exact ⟨hlt, by rw [t1, t2, hI2, hxy]⟩
    ·omega
   ·rw [decide_eq_false hxy] at hE
    rw [decide_eq_false (fun e => hxy (by subst e; rw [e0] at f0; exact Option.some.inj f0))]
    refine zR (zc @hltI (zc @llRows_len (zc @hI (zc @e1 (zc @f1 trivial))))) (zc hE trivial) trivial ?_
    simp [Rets, aret, Blk.cells, ty, Try.results19, ares, toT1, toT, borrow, borrow0, capCell, toTree0, tbool]
  ·have ei : i = b.length := by omega
   have hab : a = b := by
    rw [List.take_of_length_le (by omega), List.take_of_length_le (by omega)] at hI2
    exact hI2
   rw [decide_eq_true hab]
   have hnl : ¬ ((i : Int) < b.length) := by omega
   refine zR (zc @hnl (zc @llRows_len (zc @hI trivial))) trivial trivial ?_
   simp [Rets, aret, Blk.cells, ty, Try.results19, ares, toT1, toT, borrow, borrow0, capCell, toTree0, tbool]
end Go.Proofs.Ytgklecfiflhjmaa
