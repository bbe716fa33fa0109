/- A part of the proof. -/
import Derived.Test.YtgklecfiflhjmaaPart08
import Derived.Test.YtgklecfiflhjmaaLayerC
import Derived.Test.YtgklecfiflhjmaaPart06
import Derived.Test.YtgklecfiflhjmaaPart05
set_option linter.all false
set_option maxHeartbeats 4000000
set_option maxRecDepth 100000
namespace Go.Proofs.Ytgklecfiflhjmaa
open Go.Sp
def subE (n : Int) : Option Int → List Int → Int
 | _, [] => 0
 | p, v :: l => if ¬ (0 ≤ v ∧ v < n) then 2 else if (∃ u, p = some u ∧ v ≤ u) then 9 else subE n (some v) l
def subG (g : G) (l : List Int) : Int := if checkG g ≠ 0 then checkG g else subE g.n none l
theorem Subset_ok (g : G) (l : List Int) (hg : g.es.length < 2 ^ 40) (hl : l.length < 2 ^ 40) : ACall Try.prog 57 [tG g, tints l] (tint (subG g l)) := by
 refine ACall.of_body Try.func57 rfl (by kernel_rfl) ?_
 simp only [entry, Try.ntmps57, tG, tints]
 refine zU ?_
 repeat' (first|((first|(refine zT ?_;intro K' hK')|(refine zG ?_ ?_<;>(try refine zH ?_)<;>intro hguard<;>(try exact zX)<;>try intro K' hK'))<;>((try simp +contextual only [go_sem, iRows_len]);(repeat' first|(with_reducible refine hK' _ _ ?_;clear hK' K')|(with_reducible refine zK (Check_ok g hg) ?_;try simp +contextual only [go_sem, iRows_len])|exact zY|with_reducible refine And.intro ?_ ?_|(with_reducible intro hpath;try exact zP)|(refine hK' _ _ ?_;clear hK' K')|fail);try refine zS ?_))|(refine zE ?_;refine hK _ _ ?_;clear hK K)|(refine zN ?_;try refine zS ?_)|refine zA ?_|(refine zB ?_;intro K hK)|(refine zC ?_ ?_<;>(try refine zH ?_)<;>intro hcond<;>try exact zX)|fail)
 ·have e : subG g l = checkG g := by unfold subG; rw [if_pos (by assumption)]
  simp [Rets, aret, Blk.cells, ty, Try.results57, ares, toT1, toT, borrow, borrow0, capCell, toTree0, tint, e]
 ·have hc : checkG g = 0 := by omega
  have e : subG g l = subE g.n none l := by unfold subG; rw [if_neg (by omega)]
  rw [e]
  refine AWp.loopS (α:=Nat) 37 (fun k=>[(1,.c (.slice (iRows l) .none)),(2,.c (.ptr 0 0)),(13,.c (.slice (iRows l) .none)),(14,.c (.int .i64 l.length)),(15,.c (.int .i64 (k : Int)))]) (fun k=>[.box [.int .i64 g.n, .slice (eRows g.es) .none]]) (fun k=>k ≤ l.length ∧ subE g.n none l = subE g.n (match k with | 0 => none | j + 1 => l[j]?) (l.drop k)) (fun k=>l.length - k) (0) (hk:=Weak.headL 1 37 [1, 2, 13, 14, 15] zW) (h0:=?_) (round:=fun k hI=>?_)
  ·exact ⟨Nat.zero_le _, rfl⟩
  ·obtain ⟨hk, hx⟩ := hI
   by_cases hlt : k < l.length
   ·have e0 := List.getElem?_eq_getElem hlt
    have e1 := iRows_get e0
    rw [List.drop_eq_getElem_cons hlt, subE] at hx
    generalize hv : l[k] = v at *
    cases k with
    | zero =>
     simp only [reduceCtorEq, false_and, exists_false, if_false] at hx
     repeat' (first|((first|(refine zT ?_;intro K' hK')|(refine zG ?_ ?_<;>(try refine zH ?_)<;>intro hguard<;>(try exact zX)<;>try intro K' hK'))<;>((try simp +contextual only [go_sem, e1, Int.toNat_natCast, Int.ofNat_lt]);(repeat' first|(with_reducible refine hK' _ _ ?_;clear hK' K')|(with_reducible refine zK (vertex_ok _ _) ?_;try simp +contextual only [go_sem, e1, Int.toNat_natCast, Int.ofNat_lt])|exact zY|with_reducible refine And.intro ?_ ?_|(with_reducible intro hpath;try exact zP)|(refine hK' _ _ ?_;clear hK' K')|fail);try refine zS ?_))|(refine zE ?_;refine hK _ _ ?_;clear hK K)|(refine zN ?_;try refine zS ?_)|refine zA ?_|(refine zB ?_;intro K hK)|(refine zC ?_ ?_<;>(try refine zH ?_)<;>intro hcond<;>try exact zX)|fail)
     ·rw [if_pos (by assumption)] at hx
      simp [Rets, aret, Blk.cells, ty, Try.results57, ares, toT1, toT, borrow, borrow0, capCell, toTree0, tint, hx]
     ·rw [if_neg (by omega)] at hx
      refine ⟨0 + 1,Weak.headN 1 37 [1, 2, 13, 14, 15] zW,?_,?_⟩
      ·exact ⟨hlt, hx.trans (by simp only [e0])⟩
      ·omega
    | succ j =>
     have e2 := List.getElem?_eq_getElem (show j < l.length by omega)
     have e3 := iRows_get e2
     have hj1 : ((j + 1 : Nat) : Int) - 1 = (j : Int) := by omega
     simp only [e2, Option.some.injEq, exists_eq_left'] at hx
     generalize hu : l[j] = u at *
     repeat' (first|((first|(refine zT ?_;intro K' hK')|(refine zG ?_ ?_<;>(try refine zH ?_)<;>intro hguard<;>(try exact zX)<;>try intro K' hK'))<;>((try simp +contextual only [go_sem, e1, e3, hj1, Int.toNat_natCast, Int.ofNat_lt]);(repeat' first|(with_reducible refine hK' _ _ ?_;clear hK' K')|(with_reducible refine zK (vertex_ok _ _) ?_;try simp +contextual only [go_sem, e1, e3, hj1, Int.toNat_natCast, Int.ofNat_lt])|exact zY|with_reducible refine And.intro ?_ ?_|(with_reducible intro hpath;try exact zP)|(refine hK' _ _ ?_;clear hK' K')|fail);try refine zS ?_))|(refine zE ?_;refine hK _ _ ?_;clear hK K)|(refine zN ?_;try refine zS ?_)|refine zA ?_|(refine zB ?_;intro K hK)|(refine zC ?_ ?_<;>(try refine zH ?_)<;>intro hcond<;>try exact zX)|fail)
     ·rw [if_pos (by assumption)] at hx
      simp [Rets, aret, Blk.cells, ty, Try.results57, ares, toT1, toT, borrow, borrow0, capCell, toTree0, tint, hx]
     ·rw [if_neg (by omega), if_pos (by assumption)] at hx
      simp [Rets, aret, Blk.cells, ty, Try.results57, ares, toT1, toT, borrow, borrow0, capCell, toTree0, tint, hx]
     ·rw [if_neg (by omega), if_neg (by omega)] at hx
      refine ⟨j + 1 + 1,Weak.headN 1 37 [1, 2, 13, 14, 15] zW,?_,?_⟩
      ·exact ⟨hlt, hx.trans (by simp only [e0])⟩
      ·omega
   ·have e : k = l.length := by omega
    have e : subE g.n none l = 0 := by rw [hx, e, List.drop_length]; rfl
    refine zR (zc @Int.ofNat_lt trivial) trivial trivial ?_
    simp [Rets, aret, Blk.cells, ty, Try.results57, ares, toT1, toT, borrow, borrow0, capCell, toTree0, tint, e]
def sumR (f : Nat → Int) : Nat → Int
 | 0 => 0
 | n + 1 => sumR f n + f n
theorem sumR_add (f g : Nat → Int) (n : Nat) : sumR (fun i => f i + g i) n = sumR f n + sumR g n := by
 induction n with
 | zero => rfl
 | succ n ih => simp only [sumR, ih]; omega
theorem sumR_zero {f : Nat → Int} {n : Nat} (h : ∀ i, i < n → f i = 0) : sumR f n = 0 := by
 induction n with
 | zero => rfl
 | succ n ih => simp only [sumR, ih fun i hi => h i (by omega), h n (by omega)]; rfl
theorem sumR_congr {f g : Nat → Int} {n : Nat} (h : ∀ i, i < n → f i = g i) : sumR f n = sumR g n := by
 induction n with
 | zero => rfl
 | succ n ih => simp only [sumR, ih fun i hi => h i (by omega), h n (by omega)]
theorem sumR_bound {f : Nat → Int} {n : Nat} {k : Int} (h : ∀ i, i < n → 0 ≤ f i ∧ f i ≤ k) : 0 ≤ sumR f n ∧ sumR f n ≤ k * n := by
 induction n with
 | zero => simp [sumR]
 | succ n ih =>
  have h1 := ih fun i hi => h i (by omega)
  have h2 := h n (by omega)
  have h3 : k * ((n + 1 : Nat) : Int) = k * (n : Int) + k := by rw [Int.natCast_add, Int.mul_add]; simp
  simp only [sumR]; omega
theorem sumR_one {c m : Int} : ∀ {n : Nat}, 0 ≤ c → c < n → sumR (fun i => if (i : Int) = c then m else 0) n = m := by
 intro n
 induction n with
 | zero => intro h1 h2; omega
 | succ n ih =>
  intro h1 h2
  simp only [sumR]
  by_cases e : (n : Int) = c
  ·rw [if_pos e, sumR_zero (fun i hi => if_neg (by omega))]; omega
  ·rw [if_neg e, ih h1 (by omega)]; omega
theorem distinct_of {es : List E} (h : es.Pairwise ltE) : distinctE es := h.imp fun {x y} h => by unfold ltE at h; unfold neE; omega
theorem cntL_zero {es : List E} {a b : Int} (h : ∀ x, x ∈ es → ¬ (x.a = a ∧ x.b = b)) : cntL es a b = 0 := by
 induction es with
 | nil => rfl
 | cons x xs ih => simp only [cntL]; rw [if_neg (h x (by simp)), ih fun y hy => h y (by simp [hy])]
theorem cntL_cons {x : E} {xs : List E} (h : distinctE (x :: xs)) (a b : Int) : cntL (x :: xs) a b = (if x.a = a ∧ x.b = b then x.m else 0) + cntL xs a b := by
 simp only [cntL]
 by_cases hx : x.a = a ∧ x.b = b
 ·rw [if_pos hx, if_pos hx, cntL_zero fun y hy => by
   have := (List.pairwise_cons.1 h).1 y hy
   unfold neE at this; omega]
  omega
 ·rw [if_neg hx, if_neg hx]; omega
theorem endsL_cons (x : E) (xs : List E) : endsL (x :: xs) = List.replicate x.m.toNat (x.a, x.b) ++ endsL xs := by simp [endsL]
theorem degL_rep (v : Int) (p : Int × Int) (k : Nat) : degL v (List.replicate k p) = k * (b2i (p.1 = v) + b2i (p.2 = v)) := by
 induction k with
 | zero => simp [degL]
 | succ k ih => rw [List.replicate_succ]; simp only [degL, ih]; rw [Int.natCast_add, Int.add_mul]; omega
theorem degL_val {es : List E} (hd : distinctE es) (hm : ∀ x, x ∈ es → 1 ≤ x.m) (v : Int) : degL v (endsL es) = valL v es + 2 * cntL es v v := by
 induction es with
 | nil => rfl
 | cons x xs ih =>
  have h1 := hm x (by simp)
  have h2 := ih (List.pairwise_cons.1 hd).2 fun y hy => hm y (by simp [hy])
  rw [endsL_cons, degL_append, degL_rep, h2, cntL_cons hd, valL]
  have e : ((x.m.toNat : Nat) : Int) = x.m := by omega
  rw [e]
  simp only [b2i]
  by_cases ha : x.a = v <;> by_cases hb : x.b = v
  ·simp [ha, hb]; omega
  ·simp [ha, hb]; rw [if_neg (fun h => hb h.symm)]; omega
  ·simp [ha, hb]; omega
  ·simp [ha, hb]
theorem cnt_sum {n : Nat} {es : List E} (hd : distinctE es) (hr : ∀ x, x ∈ es → 0 ≤ x.a ∧ x.a ≤ x.b ∧ x.b < n) (v : Int) :
  sumR (fun u => cntL es (min v u) (max v u)) n = valL v es + cntL es v v := by
 induction es with
 | nil => simp only [cntL, valL]; rw [sumR_zero fun _ _ => rfl]; rfl
 | cons x xs ih =>
  have h1 := hr x (by simp)
  have h2 := ih (List.pairwise_cons.1 hd).2 fun y hy => hr y (by simp [hy])
  have h3 : sumR (fun u => cntL (x :: xs) (min v u) (max v u)) n = sumR (fun u => if x.a = min v (u : Int) ∧ x.b = max v (u : Int) then x.m else 0) n + sumR (fun u => cntL xs (min v u) (max v u)) n := by
   rw [← sumR_add]; exact sumR_congr fun i _ => cntL_cons hd _ _
  rw [h3, h2, cntL_cons hd, valL]
  by_cases ha : x.a = v
  ·have h4 : sumR (fun u => if x.a = min v (u : Int) ∧ x.b = max v (u : Int) then x.m else 0) n = x.m := by
    rw [sumR_congr (g := fun u => if (u : Int) = x.b then x.m else 0), sumR_one (by omega) (by omega)]
    intro i _
    by_cases hi : (i : Int) = x.b
    ·rw [if_pos hi, if_pos (by omega)]
    ·rw [if_neg hi, if_neg (by omega)]
   rw [h4]
   by_cases hb : x.b = v
   ·rw [if_neg (by omega), if_pos (by omega)]; omega
   ·rw [if_pos (by omega), if_neg (by omega)]; omega
  ·by_cases hb : x.b = v
   ·have h4 : sumR (fun u => if x.a = min v (u : Int) ∧ x.b = max v (u : Int) then x.m else 0) n = x.m := by
     rw [sumR_congr (g := fun u => if (u : Int) = x.a then x.m else 0), sumR_one (by omega) (by omega)]
     intro i _
     by_cases hi : (i : Int) = x.a
     ·rw [if_pos hi, if_pos (by omega)]
     ·rw [if_neg hi, if_neg (by omega)]
    rw [h4, if_pos (by omega), if_neg (by omega)]; omega
   ·rw [sumR_zero fun i _ => if_neg (by omega), if_neg (by omega), if_neg (by omega)]; omega
theorem deg_sum {n : Nat} {l : List (Int × Int)} (hr : ∀ p, p ∈ l → (0 ≤ p.1 ∧ p.1 < n) ∧ (0 ≤ p.2 ∧ p.2 < n)) : sumR (fun v => degL v l) n = 2 * l.length := by
 induction l with
 | nil => simp only [degL]; rw [sumR_zero fun _ _ => rfl]; rfl
 | cons p l ih =>
  have h1 := hr p (by simp)
  have h2 := ih fun q hq => hr q (by simp [hq])
  have h3 : sumR (fun v => degL v (p :: l)) n = sumR (fun v => if (v : Int) = p.1 then 1 else 0) n + sumR (fun v => if (v : Int) = p.2 then 1 else 0) n + sumR (fun v => degL v l) n := by
   rw [← sumR_add, ← sumR_add]
   refine sumR_congr fun i _ => ?_
   simp only [degL, b2i]
   congr 1
   congr 1
   ·by_cases e : p.1 = (i : Int)
    ·rw [if_pos e, if_pos e.symm]
    ·rw [if_neg e, if_neg fun h => e h.symm]
   ·by_cases e : p.2 = (i : Int)
    ·rw [if_pos e, if_pos e.symm]
    ·rw [if_neg e, if_neg fun h => e h.symm]
  rw [h3, h2, sumR_one h1.1.1 h1.1.2, sumR_one h1.2.1 h1.2.2, List.length_cons]
  omega
theorem handshake {g : G} {n : Nat} (hc : checkG g = 0) (hn : g.n = n) :
  sumR (fun v => valL v g.es + 2 * cntL g.es v v) n = 2 * (endsL g.es).length ∧
  (∀ v : Int, degL v (endsL g.es) = valL v g.es + 2 * cntL g.es v v) ∧
  (∀ v : Int, sumR (fun u => cntL g.es (min v u) (max v u)) n = valL v g.es + cntL g.es v v) := by
 obtain ⟨h1, h2, h3⟩ := checkG_zero.1 hc
 have hd := distinct_of h3
 have hv : ∀ v : Int, degL v (endsL g.es) = valL v g.es + 2 * cntL g.es v v := degL_val hd fun x hx => by have := h2 x hx; unfold okE at this; omega
 refine ⟨?_, hv, fun v => cnt_sum hd (fun x hx => by have := h2 x hx; unfold okE at this; omega) v⟩
 rw [← deg_sum (n := n) (l := endsL g.es)]
 ·exact sumR_congr fun i _ => (hv _).symm
 ·intro p hp
  obtain ⟨e, he, hx⟩ := List.mem_flatMap.1 hp
  obtain rfl := List.eq_of_mem_replicate hx
  have := h2 e he
  unfold okE at this
  simp only; omega
theorem enter69 : ∀ args w, (callFunc 88 args).run Try.prog w = .ok (.enter 88 args) w := Go.Proofs.enters_of Try.func88 (by kernel_rfl) rfl
theorem SortI_ok (l : List Int) (hl : l.length < 2 ^ 60) {H : List Blk} {id cap : Nat} (hid : H[id]? = some (.box (flatRows (iRows l)))) :
  ACallH Try.prog 88 H [.c (.ref id 1 0 l.length cap)] (H.set id (.box (flatRows (iRows (sortI l))))) (.tup []) := SortInts_call laySortI enter69 l (by omega) hid
end Go.Proofs.Ytgklecfiflhjmaa
