/- A part of the proof. -/
import Derived.Test.YtgklecfiflhjmaaPart22
import Derived.Test.YtgklecfiflhjmaaPart02
import Derived.Test.YtgklecfiflhjmaaLayerC
import Derived.Test.YtgklecfiflhjmaaPart19
set_option linter.all false
set_option maxHeartbeats 4000000
set_option maxRecDepth 100000
namespace Go.Proofs.Ytgklecfiflhjmaa
open Go.Sp
def orStep (R S : List Bool) (u : Nat) : List Bool := S.set u (S.getD u false || R.getD u false)
def orK (R S : List Bool) (k : Nat) : List Bool := (List.range k).foldl (orStep R) S
theorem orStep_len (R S : List Bool) (u : Nat) : (orStep R S u).length = S.length := by simp [orStep]
theorem orK_len (R S : List Bool) (k : Nat) : (orK R S k).length = S.length := foldl_len (orStep_len R) _ _
def seenStep (es : List E) (n : Nat) (S : List Bool) (v : Nat) : List Bool := if S.getD v false then S else orK (reachL es n v) S n
def seenN (es : List E) (n v : Nat) : List Bool := (List.range v).foldl (seenStep es n) (List.replicate n false)
theorem seenN_len (es : List E) (n v : Nat) : (seenN es n v).length = n := by
 unfold seenN
 rw [foldl_len (fun S v => by unfold seenStep; split <;> simp [orK_len])]; simp
def partsN (es : List E) (n : Nat) : Nat → Nat
 | 0 => 0
 | v + 1 => if (seenN es n v).getD v false then partsN es n v else partsN es n v + 1
theorem partsN_le (es : List E) (n v : Nat) : partsN es n v ≤ v := by
 induction v with
 | zero => exact Nat.le_refl _
 | succ v ih => simp only [partsN]; split <;> omega
theorem getD_of {R : List Bool} {i : Nat} {x : Bool} (h : R[i]? = some x) : R.getD i false = x := by rw [List.getD_eq_getElem?_getD, h]; rfl
theorem Parts_ok (g : G) (n : Nat) (hc : checkG g = 0) (hn : g.n = n) (hl : g.es.length < 2 ^ 30) : ACall Try.prog 48 [tG g] (tint (partsN g.es n n)) := by
 have hn12 := (checkG_zero.1 hc).1
 have hre : ∀ v : Nat, v < n → ACall Try.prog 51 [tG g, tint v] (tbools (reachL g.es n v)) := fun v hv => Reached_ok g n v hc hn hv hl
 obtain ⟨gn, es⟩ := g
 simp only at hn hl hn12 hre ⊢
 subst hn
 refine ACall.of_body Try.func48 rfl (by kernel_rfl) ?_
 simp only [entry, Try.ntmps48, tG]
 refine zU ?_
 repeat' (first|((first|(refine zT ?_;intro K' hK')|(refine zG ?_ ?_<;>(try refine zH ?_)<;>intro hguard<;>(try exact zX)<;>try intro K' hK'))<;>((try simp +contextual only [go_sem, made_bools, Int.toNat_natCast, Nat.mul_one, bC_set, bC_len, List.length_replicate]);(repeat' first|(with_reducible refine hK' _ _ ?_;clear hK' K')|exact zY|with_reducible refine And.intro ?_ ?_|(with_reducible intro hpath;try exact zP)|(refine hK' _ _ ?_;clear hK' K')|fail);try refine zS ?_))|(refine zE ?_;refine hK _ _ ?_;clear hK K)|(refine zN ?_;try refine zS ?_)|refine zA ?_|(refine zB ?_;intro K hK)|(refine zC ?_ ?_<;>(try refine zH ?_)<;>intro hcond<;>try exact zX)|fail)
 refine AWp.loopS (α:=Nat) 46 (fun v=>[(1,.c (.ptr 0 0)),(2,.c (.int .i64 0)),(3,.c (.int .i64 (partsN es n v))),(4,.c (.ref 1 1 0 n n)),(5,.c (.int .i64 (v : Int)))]) (fun v=>[.box [.int .i64 (n : Int), .slice (eRows es) .none], .box (bC (seenN es n v))]) (fun v=>v ≤ n) (fun v=>n - v) (0) (hk:=Weak.headL 2 46 [1, 2, 3, 4, 5] zW) (h0:=?_) (round:=fun v hI=>?_)
 ·exact Nat.zero_le _
 ·have hv : v ≤ n := hI
  clear hI
  have hlen := seenN_len es n v
  have hpl := partsN_le es n v
  by_cases hlt : v < n
  ·have hltI : (v : Int) < n := by omega
   have hS1 : seenN es n (v + 1) = seenStep es n (seenN es n v) v := foldl_range_succ _ _ _
   have hP1 : partsN es n (v + 1) = if (seenN es n v).getD v false then partsN es n v else partsN es n v + 1 := rfl
   have hrv := hre v hlt
   have hrl := reachN_len es n v n
   generalize partsN es n v = p at *
   generalize seenN es n v = S at *
   obtain ⟨x, hx⟩ := bool_get hlen hlt
   unfold seenStep at hS1
   rw [getD_of hx] at hS1 hP1
   have hd := bC_drop hx
   have hg := bC_get hx
   cases x with
   | true =>
    rw [if_pos rfl] at hS1 hP1
    refine zR (zc @hltI (zc @hd (zc @hg (zc @bC_len (zc @hlen trivial))))) trivial trivial ?_
    refine ⟨v + 1,Weak.headF 2 46 [1, 2, 3, 4, 5] (zc @hS1 (zc @hP1 trivial)) zW,?_,?_⟩
    ·exact hlt
    ·omega
   | false =>
    rw [if_neg (by simp)] at hS1 hP1
    change (reachL es n v).length = n at hrl
    generalize reachL es n v = R at *
    refine zR (zc @hltI (zc @hd (zc @hg (zc @bC_len (zc @hlen trivial))))) (zc hrv trivial) trivial ?_
    refine AWp.loopS (α:=Nat) 46 (fun u=>[(1,.c (.ptr 0 0)),(2,.c (.int .i64 0)),(3,.c (.int .i64 ((p : Int) + 1))),(4,.c (.ref 1 1 0 n n)),(5,.c (.int .i64 (v : Int))),(6,.c (.slice (bRows R) .none)),(7,.c (.int .i64 (u : Int)))]) (fun u=>[.box [.int .i64 (n : Int), .slice (eRows es) .none], .box (bC (orK R S u))]) (fun u=>u ≤ n) (fun u=>n - u) (0) (hk:=Weak.headL 2 46 [1, 2, 3, 4, 5, 6, 7] zW) (h0:=?_) (round:=fun u hI=>?_)
    ·exact Nat.zero_le _
    ·have hu : u ≤ n := hI
     clear hI
     have hlen2 : (orK R S u).length = n := (orK_len R S u).trans hlen
     by_cases hltu : u < n
     ·have hltuI : (u : Int) < n := by omega
      have hO : orK R S (u + 1) = orStep R (orK R S u) u := foldl_range_succ _ _ _
      generalize orK R S u = T at *
      obtain ⟨y, hy⟩ := bool_get hlen2 hltu
      obtain ⟨z, hz⟩ := bool_get hrl hltu
      unfold orStep at hO
      rw [getD_of hy, getD_of hz] at hO
      have hd2 := bC_drop hy
      have hg2 := bC_get hy
      have hg3 := bRows_get hz
      cases y with
      | true =>
       rw [Bool.true_or] at hO
       refine zR (zc @hltuI (zc @hd2 (zc @hg2 (zc @hg3 (zc @bC_len (zc @hlen2 (zc @bC_set (zc @bRows_len (zc @hrl trivial))))))))) trivial trivial ?_
       refine ⟨u + 1,Weak.headF 2 46 [1, 2, 3, 4, 5, 6, 7] (zc @hO trivial) zW,?_,?_⟩
       ·exact hltu
       ·omega
      | false =>
       rw [Bool.false_or] at hO
       refine zR (zc @hltuI (zc @hd2 (zc @hg2 (zc @hg3 (zc @bC_len (zc @hlen2 (zc @bC_set (zc @bRows_len (zc @hrl trivial))))))))) trivial trivial ?_
       refine ⟨u + 1,Weak.headF 2 46 [1, 2, 3, 4, 5, 6, 7] (zc @hO trivial) zW,?_,?_⟩
       ·exact hltu
       ·omega
     ·have eu : u = n := by omega
      subst eu
      have hnl : ¬ ((u : Int) < u) := by omega
      refine zR (zc @hnl trivial) trivial trivial ?_
      refine ⟨v + 1,Weak.headF 2 46 [1, 2, 3, 4, 5] (zc @hS1 (zc @hP1 trivial)) zW,?_,?_⟩
      ·exact hlt
      ·omega
  ·have ev : v = n := by omega
   subst ev
   have hnl : ¬ ((v : Int) < v) := by omega
   refine zR (zc @hnl trivial) trivial trivial ?_
   simp [Rets, aret, Blk.cells, ty, Try.results48, ares, toT1, toT, borrow, borrow0, capCell, toTree0, tint]
structure PermL (n : Nat) (l : List Int) : Prop where
 len : l.length = n
 rng : ∀ x, x ∈ l → 0 ≤ x ∧ x < n
 nd : l.Nodup
def nrm (F : Int → Int) (x : E) : E := ⟨min (F x.a) (F x.b), max (F x.a) (F x.b), x.m⟩
structure Ren (g h : G) (n : Nat) (F : Int → Int) : Prop where
 c : checkG g = 0
 nn : g.n = n
 c' : checkG h = 0
 nn' : h.n = n
 rng : ∀ v : Int, 0 ≤ v ∧ v < n → 0 ≤ F v ∧ F v < n
 inj : ∀ u v : Int, 0 ≤ u ∧ u < n → 0 ≤ v ∧ v < n → F u = F v → u = v
 perm : h.es.Perm (g.es.map (nrm F))
def tabRows (T : List (List Int)) : List (List Tree) := (T.map fun r => Tree.slice (iRows r)).map fun t => [t]
def tTab (T : List (List Int)) : TVal := .t (.slice (tabRows T))
attribute [go_sem] tTab
theorem tabRows_get {T : List (List Int)} {i : Nat} {r : List Int} (h : T[i]? = some r) : (tabRows T)[i]? = some [.slice (iRows r)] := by simp [tabRows, h]
def cellT (T : List (List Int)) (a b : Nat) : Int := (T.getD a []).getD b 0
structure Sq (n : Nat) (T : List (List Int)) : Prop where
 len : T.length = n
 row : ∀ r, r ∈ T → r.length = n
theorem Sq.get {n : Nat} {T : List (List Int)} (h : Sq n T) {a b : Nat} (ha : a < n) (hb : b < n) : ∃ r, T[a]? = some r ∧ r.length = n ∧ r[b]? = some (cellT T a b) := by
 have hal : a < T.length := by rw [h.len]; exact ha
 have hrl := h.row _ (List.getElem_mem hal)
 refine ⟨T[a], List.getElem?_eq_getElem hal, hrl, ?_⟩
 unfold cellT
 rw [List.getD_eq_getElem?_getD (l := T), List.getElem?_eq_getElem hal, Option.getD_some, List.getD_eq_getElem?_getD, List.getElem?_eq_getElem (by omega)]; rfl
def rowE (f : Nat → Int) (a b : Nat) : List E := (List.range b).filterMap fun j => if a ≤ j ∧ 0 < f j then some ⟨a, j, f j⟩ else none
def joinE (f : Nat → Nat → Int) (n a : Nat) : List E := (List.range a).flatMap fun i => rowE (f i) i n
theorem rowE_succ (f : Nat → Int) (a b : Nat) : rowE f a (b + 1) = rowE f a b ++ (if a ≤ b ∧ 0 < f b then [⟨a, b, f b⟩] else []) := by
 simp only [rowE, List.range_succ, List.filterMap_append]
 congr 1
 by_cases h : a ≤ b ∧ 0 < f b <;> simp [h]
@[simp] theorem rowE_start (f : Nat → Int) (a : Nat) : rowE f a a = [] := by
 simp only [rowE, List.filterMap_eq_nil_iff, List.mem_range]
 intro j hj
 rw [if_neg (by omega)]
theorem joinE_succ (f : Nat → Nat → Int) (n a : Nat) : joinE f n (a + 1) = joinE f n a ++ rowE (f a) a n := by simp [joinE, List.range_succ]
theorem rowE_len (f : Nat → Int) (a b : Nat) : (rowE f a b).length ≤ b := by
 have := List.length_filterMap_le (fun j => if a ≤ j ∧ 0 < f j then some (⟨a, j, f j⟩ : E) else none) (List.range b)
 simpa [rowE] using this
theorem joinE_len (f : Nat → Nat → Int) (n a : Nat) : (joinE f n a).length ≤ a * n := by
 induction a with
 | zero => simp [joinE]
 | succ a ih =>
  have := rowE_len (f a) a n
  rw [joinE_succ, List.length_append, Nat.add_mul]; omega
theorem joinE_congr {f g : Nat → Nat → Int} {n : Nat} (h : ∀ a b, a ≤ b → b < n → f a b = g a b) : ∀ a, a ≤ n → joinE f n a = joinE g n a := by
 intro a
 induction a with
 | zero => intro _; rfl
 | succ a ih =>
  intro ha
  rw [joinE_succ, joinE_succ, ih (by omega)]
  congr 1
  unfold rowE
  have : ∀ l : List Nat, (∀ j, j ∈ l → j < n) → (l.filterMap fun j => if a ≤ j ∧ 0 < f a j then some (⟨a, j, f a j⟩ : E) else none) = l.filterMap fun j => if a ≤ j ∧ 0 < g a j then some (⟨a, j, g a j⟩ : E) else none := by
   intro l
   induction l with
   | nil => intro _; rfl
   | cons j l ih2 =>
    intro hl
    rw [List.filterMap_cons, List.filterMap_cons, ih2 fun x hx => hl x (by simp [hx])]
    by_cases hj : a ≤ j
    ·rw [h a j hj (hl j (by simp))]
    ·rw [if_neg (by omega), if_neg (by omega)]
  exact this _ fun j hj => List.mem_range.1 hj
theorem Joined_ok (n : Nat) (T : List (List Int)) (hn : n ≤ 12) (hT : Sq n T) : ACall Try.prog 84 [tint n, tTab T] (tG ⟨n, joinE (cellT T) n n⟩) := by
 have htl := hT.len
 refine ACall.of_body Try.func84 rfl (by kernel_rfl) ?_
 simp only [entry, Try.ntmps84, tint, tTab]
 refine zU ?_
 refine zR trivial trivial trivial ?_
 refine AWp.weak (Weak.openB 1 1 3 rfl rfl (by omega)) ?_
 simp only [List.set_cons_succ, List.set_cons_zero, List.length_cons, List.length_nil, List.length_append, Nat.reduceAdd, List.cons_append, List.nil_append]
 have hj0 : joinE (cellT T) n 0 = [] := rfl
 refine AWp.loopS (α:=Nat) 45 (fun a=>[(0,.c (.int .i64 (n : Int))),(1,.c (.slice (tabRows T) .none)),(4,.c (.ptr 0 0)),(5,.c (.ptr 1 0)),(6,.c (.int .i64 (a : Int)))]) (fun a=>[.box [.int .i64 0, .nils], .box [.int .i64 (n : Int), .slice (eRows (joinE (cellT T) n a)) (.chain 2)], .chain (joinE (cellT T) n a).length 3]) (fun a=>a ≤ n) (fun a=>n - a) (0) (hk:=Weak.headL 3 45 [0, 1, 4, 5, 6] zW) (h0:=?_) (round:=fun a hI=>?_)
 ·exact Nat.zero_le _
 ·have ha : a ≤ n := hI
  clear hI
  by_cases hlt : a < n
  ·have hltI : (a : Int) < n := by omega
   have hA := joinE_succ (cellT T) n a
   have hjl := joinE_len (cellT T) n a
   have hjl2 : a * n ≤ 12 * 12 := Nat.mul_le_mul (by omega) hn
   refine zR (zc @hltI trivial) trivial trivial ?_
   refine AWp.loopS (α:=Nat) 45 (fun b=>[(0,.c (.int .i64 (n : Int))),(1,.c (.slice (tabRows T) .none)),(4,.c (.ptr 0 0)),(5,.c (.ptr 1 0)),(6,.c (.int .i64 (a : Int))),(7,.c (.int .i64 (b : Int)))]) (fun b=>[.box [.int .i64 0, .nils], .box [.int .i64 (n : Int), .slice (eRows (joinE (cellT T) n a ++ rowE (cellT T a) a b)) (.chain 2)], .chain (joinE (cellT T) n a ++ rowE (cellT T a) a b).length 3]) (fun b=>a ≤ b ∧ b ≤ n) (fun b=>n - b) (a) (hk:=Weak.headL 3 45 [0, 1, 4, 5, 6, 7] zW) (h0:=?_) (round:=fun b hI=>?_)
   ·exact ⟨Nat.le_refl _, ha⟩
   ·obtain ⟨hab, hb⟩ := hI
    by_cases hltb : b < n
    ·have hltbI : (b : Int) < n := by omega
     obtain ⟨r, e1, e2, e3⟩ := hT.get hlt hltb
     have f1 := tabRows_get e1
     have f2 := iRows_get e3
     have hR := rowE_succ (cellT T a) a b
     have hrl := rowE_len (cellT T a) a b
     have hLs : joinE (cellT T) n a ++ rowE (cellT T a) a (b + 1) = (joinE (cellT T) n a ++ rowE (cellT T a) a b) ++ (if a ≤ b ∧ 0 < cellT T a b then [⟨a, b, cellT T a b⟩] else []) := by rw [hR, List.append_assoc]
     have hLl : (joinE (cellT T) n a ++ rowE (cellT T a) a b).length ≤ 200 := by rw [List.length_append]; omega
     generalize joinE (cellT T) n a ++ rowE (cellT T a) a b = L at *
     generalize hx : cellT T a b = x at *
     by_cases hp : 0 < x
     ·rw [if_pos ⟨hab, hp⟩] at hLs
      have hsn := eRows_snoc L ⟨a, b, x⟩
      refine zRc (zc @hltbI (zc @f1 (zc @f2 (zc @hp (zc @eRows_len (zc @hsn trivial)))))) trivial @eRows_k' ?_
      refine ⟨b + 1,Weak.headF 3 45 [0, 1, 4, 5, 6, 7] (zc @hLs trivial) zW,?_,?_⟩
      ·exact ⟨by omega, hltb⟩
      ·omega
     ·rw [if_neg (by omega), List.append_nil] at hLs
      refine zR (zc @hltbI (zc @f1 (zc @f2 (zc @hp trivial)))) trivial trivial ?_
      refine ⟨b + 1,Weak.headF 3 45 [0, 1, 4, 5, 6, 7] (zc @hLs trivial) zW,?_,?_⟩
      ·exact ⟨by omega, hltb⟩
      ·omega
    ·have eb : b = n := by omega
     have hnl : ¬ ((b : Int) < n) := by omega
     rw [eb]
     rw [eb] at hnl
     refine zR (zc @hnl trivial) trivial trivial ?_
     refine ⟨a + 1,Weak.headF 3 45 [0, 1, 4, 5, 6] (zc @hA trivial) zW,?_,?_⟩
     ·exact hlt
     ·omega
  ·have ea : a = n := by omega
   subst ea
   have hnl : ¬ ((a : Int) < a) := by omega
   refine zR (zc @hnl trivial) trivial trivial ?_
   simp [Rets, aret, Blk.cells, ty, Try.results84, ares, toT1, toT, borrow, borrow0, capCell, toTree0, tG]
end Go.Proofs.Ytgklecfiflhjmaa
