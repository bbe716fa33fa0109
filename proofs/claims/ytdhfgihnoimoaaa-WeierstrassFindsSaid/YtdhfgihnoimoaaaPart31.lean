/- A part of the proof. -/
import Derived.Test.YtdhfgihnoimoaaaPart30
import Derived.Test.YtdhfgihnoimoaaaLayerC
import Derived.Test.YtdhfgihnoimoaaaPart11
import Derived.Test.YtdhfgihnoimoaaaPart25
set_option linter.all false
set_option maxHeartbeats 4000000
set_option maxRecDepth 100000
namespace Go.Proofs.Ytdhfgihnoimoaaa
open Go.Sp
def subK (a b : List Int) (n i : Nat) : List Int := (List.range n).map fun v => if v < i then a.getD v 0 - b.getD v 0 else 0
theorem subK_len (a b : List Int) (n i : Nat) : (subK a b n i).length = n := by simp [subK]
theorem subK_get (a b : List Int) (n i v : Nat) : (subK a b n i)[v]? = if v < n then some (if v < i then a.getD v 0 - b.getD v 0 else 0) else none := by
 unfold subK
 rw [List.getElem?_map]
 by_cases h : v < n
 ·rw [if_pos h, List.getElem?_range h]; rfl
 ·rw [if_neg h, List.getElem?_eq_none (by simpa using h)]; rfl
theorem subK_set (a b : List Int) {n i : Nat} (hi : i < n) : (subK a b n i).set i (a.getD i 0 - b.getD i 0) = subK a b n (i + 1) := by
 apply List.ext_getElem?
 intro j
 rw [List.getElem?_set, subK_len, subK_get, subK_get]
 by_cases e : i = j
 ·subst e
  rw [if_pos rfl, if_pos hi, if_pos hi, if_pos (by omega)]
 ·rw [if_neg e]
  by_cases h : j < n
  ·rw [if_pos h, if_pos h]
   by_cases h2 : j < i
   ·rw [if_pos h2, if_pos (by omega)]
   ·rw [if_neg h2, if_neg (by omega)]
  ·rw [if_neg h, if_neg h]
theorem subK_zero (a b : List Int) (n : Nat) : subK a b n 0 = List.replicate n 0 := by
 apply List.ext_getElem
 ·simp [subK]
 ·intro i h1 h2; simp [subK]
theorem mul_cnt {es : List E} (hd : distinctE es) (hle : ∀ e, e ∈ es → e.a ≤ e.b) {u v : Nat} (hne : u ≠ v) : mulE es u v = cntL es (min (u : Int) v) (max (u : Int) v) := by
 induction es with
 | nil => rfl
 | cons e es ih =>
  rw [cntL_cons hd]
  simp only [mulE]
  rw [ih (List.pairwise_cons.1 hd).2 fun x hx => hle x (by simp [hx])]
  have h1 := hle e (by simp)
  have : (e.a ≠ e.b ∧ ((e.a = u ∧ e.b = v) ∨ (e.b = u ∧ e.a = v))) ↔ (e.a = min (u : Int) v ∧ e.b = max (u : Int) v) := by omega
  by_cases h : e.a = min (u : Int) v ∧ e.b = max (u : Int) v
  ·rw [if_pos h, if_pos (this.2 h)]
  ·rw [if_neg h, if_neg (fun q => h (this.1 q))]
open Classical in
noncomputable def winB (n : Nat) (es : List E) (d : List Int) : Bool := decide (win n (mulE es) fun v => d.getD v 0)
theorem winB_iff {n : Nat} {es : List E} {d : List Int} : winB n es d = true ↔ win n (mulE es) fun v => d.getD v 0 := by
 classical simp [winB]
theorem winsL_succ (M : Nat → Nat → Int) (n k : Nat) (d : List Int) (b : List Bool) : winsL M n (k + 1) d b = match oweL d with
  | none => true
  | some v => if b.all id = true then false else winsL M n k (borG M v n d) (b.set v true) := rfl
theorem borG_succ (M : Nat → Nat → Int) (v k : Nat) (d : List Int) (hne : k ≠ v) : borG M v (k + 1) d = ((borG M v k d).set k ((borG M v k d).getD k 0 - M k v)).set v (((borG M v k d).set k ((borG M v k d).getD k 0 - M k v)).getD v 0 + M k v) := by
 simp only [borG, if_neg hne]
theorem borG_same (M : Nat → Nat → Int) (v : Nat) (d : List Int) : borG M v (v + 1) d = borG M v v d := by simp only [borG, if_true]
theorem cntL_nonneg {es : List E} (hm : ∀ e, e ∈ es → 0 ≤ e.m) (a b : Int) : 0 ≤ cntL es a b := by
 induction es with
 | nil => exact Int.le_refl _
 | cons e es ih =>
  simp only [cntL]
  split
  ·exact hm e (by simp)
  ·exact ih fun x hx => hm x (by simp [hx])
theorem cntL_le50 {es : List E} (hm : ∀ e, e ∈ es → e.m ≤ 50) (a b : Int) : cntL es a b ≤ 50 := by
 induction es with
 | nil => exact (by decide : (0 : Int) ≤ 50)
 | cons e es ih =>
  simp only [cntL]
  split
  ·exact hm e (by simp)
  ·exact ih fun x hx => hm x (by simp [hx])
theorem borG_bnd {M : Nat → Nat → Int} {v : Nat} {d : List Int} {K : Int} (hm : ∀ u, 0 ≤ M u v ∧ M u v ≤ 50) (hb : bndL K d) (hv : v < d.length) : ∀ k, k ≤ d.length → ∀ w, -(K + 50 * k) ≤ (borG M v k d).getD w 0 ∧ (borG M v k d).getD w 0 ≤ K + 50 * k
 | 0, _ => fun w => by have := hb w; simp only [borG]; omega
 | k + 1, hk => fun w => by
  have ih := borG_bnd hm hb hv k (by omega)
  have hl := borG_len M v d k
  by_cases e : k = v
  ·subst e
   rw [borG_same]
   have := ih w; omega
  ·rw [borG_succ M v k d e, getD_set_int _ _ _ _ (by rw [List.length_set, hl]; exact hv), getD_set_int _ _ _ _ (by rw [hl]; omega), getD_set_int _ _ _ _ (by rw [hl]; omega), if_neg (show ¬ v = k by omega)]
   have h1 := ih w
   have h2 := ih v
   have h3 := ih k
   have h4 := hm k
   split
   ·omega
   ·split <;> omega
theorem Wins_ok {n : Nat} {es : List E} (g : Gok n es) {d0 : List Int} (hd0 : d0.length = n) (hb0 : bndL 1000 d0) (hsz : sizeE es ≤ 1000) : ACall Try.prog 93 [tG ⟨(n : Int), es⟩, tints d0] (tbool (winB n es d0)) := by
 have h1 := g.h1
 have h12 := g.h12
 have h0 : 0 < n := by omega
 have hM := g.hM
 have hl40 := g.hl
 have hTot := Total_ok d0 hd0 (by omega) (bndL_mono hb0 (by decide))
 have hchk := checkG_zero.1 g.hc
 have hdist := distinct_of hchk.2.2
 have hle : ∀ e, e ∈ es → e.a ≤ e.b := fun e he => by have := hchk.2.1 e he; unfold okE at this; exact this.2.1
 have hm50 := fun (u v : Int) => cntL_le50 (es := es) (fun e he => (g.hE.rng e he).2.2.2) u v
 have hm0 := fun (u v : Int) => cntL_nonneg (es := es) (fun e he => (g.hE.rng e he).2.2.1) u v
 have hval : ∀ v, v < n → sumR (mulE es v) n ≤ 1000 := fun v _ => Int.le_trans (mulE_val g.hE v) hsz
 have hBet := fun (u v : Nat) (H : List Blk) => (BetweenR_ok ⟨(n : Int), es⟩ u v (by show es.length < 2 ^ 40; omega)).h (H := H) (args := [ofT (tG ⟨(n : Int), es⟩), .c (.int .i64 u), .c (.int .i64 v)]) rfl
 simp only [tG, tint, ofT, ofT1, ofTree, List.map_cons, List.map_nil] at hBet
 have hrl : (iRows d0).length = n := by rw [iRows_len]; exact hd0
 have hrk : ∀ r, r ∈ iRows d0 → r.length = 1 := fun r hr => iRows_k' hr
 have hflat : flatRows (iRows d0) = iC d0 := flat_iRows d0
 by_cases hneg : sumD d0 n < 0
 ·have hw : winB n es d0 = false := by
   rw [Bool.eq_false_iff]
   intro h
   have := (winB_iff.1 h).deg hM
   have e : sumD d0 n = sumR (fun v => d0.getD v 0) n := rfl
   omega
  rw [hw]
  refine ACall.of_body Try.func93 rfl (by kernel_rfl) ?_
  simp only [entry, Try.ntmps93, tG, tints]
  refine zU ?_
  refine zR (zc @hneg trivial) (zc hTot trivial) trivial ?_
  simp [Rets, aret, Blk.cells, ty, Try.results93, ares, toT1, toT, borrow, borrow0, capCell, toTree0, tbool]
 have hC : (n : Int) * (n * (n * (1000 + 1000))) ≤ 4000000 := by
  have h2 : (n : Int) * (1000 + 1000) ≤ 12 * 2000 := by omega
  have h3 : (n : Int) * (n * (1000 + 1000)) ≤ 12 * 24000 := Int.mul_le_mul (by omega) h2 (Int.mul_nonneg (by omega) (by decide)) (by decide)
  have h4 : (n : Int) * (n * (n * (1000 + 1000))) ≤ 12 * 288000 := Int.mul_le_mul (by omega) (by omega) (Int.mul_nonneg (by omega) (Int.mul_nonneg (by omega) (by decide))) (by decide)
  omega
 have hbeg := GI.begin (n := n) (M := mulE es) (d := d0) (U := 1000) (C := 4000000) hd0 (by decide) (fun v _ => (hb0 v).2)
 have hokk : winsL (mulE es) n 10000000 d0 (List.replicate n false) = winB n es d0 := by
  have := winsL_ok hM h0 hd0 (U := 1000) (N := 1000) (by decide) (by decide) (fun v _ => (hb0 v).2) (fun v _ => (hb0 v).1) hval (f := 10000000) (by omega)
  rw [Bool.eq_iff_iff, this]
  exact winB_iff.symm
 have hdeg0 : 0 ≤ sumR (fun v => d0.getD v 0) n := by
  have e : sumD d0 n = sumR (fun v => d0.getD v 0) n := rfl
  omega
 have hlow : ∀ {s : Nat → Int} {k : Nat} {d : List Int} {b : List Bool}, GI n (mulE es) (fun v => d0.getD v 0) 1000 4000000 s k d b → bndL 12000 d := fun {s k d b} h v => by
  by_cases hv : v < n
  ·have h2 := h.top v hv
   have h3 := h.low hM v hv
   have h4 : (n : Int) * 1000 ≤ 12000 := by omega
   omega
  ·rw [List.getD_eq_getElem?_getD, List.getElem?_eq_none (by rw [h.dl]; omega)]; simp
 have hstep := fun {s : Nat → Int} {k : Nat} {d : List Int} {b : List Bool} (h : GI n (mulE es) (fun v => d0.getD v 0) 1000 4000000 s k d b) {q : Nat} => h.step (N := 1000) (q := q) hM (by decide) (by decide) (fun v _ => (hb0 v).1) hC hval
 generalize hW : winB n es d0 = W at *
 clear hW hb0 hsz
 rw [show (10000000 : Nat) = 10000000 - 0 from rfl] at hokk
 generalize hTT : (10000000 : Nat) = T at hokk
 refine ACall.of_body Try.func93 rfl (by kernel_rfl) ?_
 simp only [entry, Try.ntmps93, tG, tints]
 refine zU ?_
 repeat' (first|((with_reducible refine AWp.seq (AWp.of_reg (id:=3) (AReg.pre 2 (fun K hK=>?_))));simp only [List.take_succ_cons,List.take_zero])|((with_reducible refine AWp.of_reg (id:=3) (AReg.pre 2 (fun K hK=>?_)));simp only [List.take_succ_cons,List.take_zero])|((first|(refine zT ?_;intro K' hK')|(refine zG ?_ ?_<;>(try refine zH ?_)<;>intro hguard<;>(try exact zX)<;>try intro K' hK'))<;>((try simp +contextual only [go_sem, hneg]);(repeat' first|(with_reducible refine hK' _ _ ?_;clear hK' K')|(with_reducible refine zK hTot ?_;try simp +contextual only [go_sem, hneg])|exact zY|with_reducible refine And.intro ?_ ?_|(with_reducible intro hpath;try exact zP)|(refine hK' _ _ ?_;clear hK' K')|fail);try refine zS ?_))|(refine zE ?_;refine hK _ _ ?_;clear hK K)|(refine zN ?_;try refine zS ?_)|refine zA ?_|(refine zB ?_;intro K hK)|(refine zC ?_ ?_<;>(try refine zH ?_)<;>intro hcond<;>try exact zX)|fail)
 simp only [List.drop_succ_cons, List.drop_zero]
 refine AReg.step rfl rfl (step_append_fresh (e := 3) (e2 := 3) (k := 1) (z := .int .i64 0) (by' := 8) (rows := iRows d0) _ _ _ _ rfl (by simp only [ty]) (by simp only [ty]) (by simp only [ty]) (by decide) (by simp only [ty]) rfl (by simp only [ty]) rfl rfl hrk (by omega) (by omega) (by omega)) ?_
 refine AReg.rest (fun K hK => ?_)
 simp only [hflat, hrl]
 refine zJ (stop 5) (zc @made_bools (zc @Nat.zero_add trivial)) trivial trivial trivial ?_
 refine zR trivial trivial trivial ?_
 refine AWp.loopS (α:=(Nat × (List Int × List Bool))) 60 (fun w=>[(1,.c (.ref 1 1 0 n n)),(2,.c (.ptr 0 0)),(5,.c (.ref 2 1 0 n n)),(6,.c (.int .i64 (w.1 : Int)))]) (fun w=>[.box [.int .i64 (n : Int), .slice (eRows es) .none], .box (iC w.2.1), .box (bC w.2.2)]) (fun w=>w.1 ≤ T ∧ (∃ s, GI n (mulE es) (fun v => d0.getD v 0) 1000 4000000 s w.1 w.2.1 w.2.2) ∧ winsL (mulE es) n (T - w.1) w.2.1 w.2.2 = W) (fun w=>T - w.1) ((0, (d0, List.replicate n false))) (hk:=Weak.headL 3 60 [1, 2, 5, 6] (zV2 @iC_in @bC_inS)) (h0:=?_) (round:=fun w hI=>?_)
 ·exact ⟨Nat.zero_le _, ⟨_, hbeg⟩, hokk⟩
 ·obtain ⟨k, d, b⟩ := w
  obtain ⟨hk, ⟨s, hG⟩, hres⟩ := hI
  simp only at hk hG hres ⊢
  have hdl := hG.dl
  have hbl := hG.bl
  have hdb := hlow hG
  by_cases hkl : k < T
  ·have hkI : (k : Int) < 10000000 := by omega
   have hT1 : T - k = (T - (k + 1)) + 1 := by omega
   rw [hT1, winsL_succ] at hres
   have hDb := fun (H : List Blk) (hH : H[1]? = some (.box (iC d))) => debtor_h d hdl (by omega) (H := H) (x := .ref 1 1 0 n n) (iC_ref hdl hH)
   have hAl := fun (H : List Blk) (hH : H[2]? = some (.box (bC b))) => all_h b hbl (by omega) (H := H) (x := .ref 2 1 0 n n) (bC_ref hbl hH)
   cases ho : oweL d with
   | none =>
    have e : oweI d = -1 := by unfold oweI; rw [ho]
    rw [ho] at hres
    simp only at hres
    subst hres
    rw [e] at hDb
    repeat' ((fail_if_success (with_reducible refine AWp.atSeq 99 ?_));(fail_if_success (with_reducible refine AWp.atLast 99 ?_));first|((first|(refine zT ?_;intro K' hK')|(refine zG ?_ ?_<;>(try refine zH ?_)<;>intro hguard<;>(try exact zX)<;>try intro K' hK'))<;>((try simp +contextual only [go_sem, hkI]);(repeat' first|(with_reducible refine hK' _ _ ?_;clear hK' K')|((with_reducible first|refine ⟨_,_,(hDb _ rfl),?_⟩|refine ⟨_,(hDb _ rfl),?_⟩);try simp +contextual only [go_sem, hkI])|exact zY|with_reducible refine And.intro ?_ ?_|(with_reducible intro hpath;try exact zP)|(refine hK' _ _ ?_;clear hK' K')|fail);try refine zS ?_))|(refine zE ?_;refine hK _ _ ?_;clear hK K)|(refine zN ?_;try refine zS ?_)|refine zA ?_|(refine zB ?_;intro K hK)|(refine zC ?_ ?_<;>(try refine zH ?_)<;>intro hcond<;>try exact zX)|fail)
    simp [Rets, aret, Blk.cells, ty, Try.results93, ares, toT1, toT, borrow, borrow0, capCell, toTree0, tbool]
   | some v =>
    obtain ⟨hv, hdv⟩ := oweL_some ho
    rw [hdl] at hv
    have e : oweI d = v := by unfold oweI; rw [ho]
    rw [ho] at hres
    simp only at hres
    rw [e] at hDb
    have hvn : ¬ (v : Int) < 0 := by omega
    have hvI : (v : Int) < (n : Int) := by omega
    by_cases hall : b.all id = true
    ·rw [if_pos hall] at hres
     subst hres
     rw [hall] at hAl
     repeat' ((fail_if_success (with_reducible refine AWp.atSeq 99 ?_));(fail_if_success (with_reducible refine AWp.atLast 99 ?_));first|((first|(refine zT ?_;intro K' hK')|(refine zG ?_ ?_<;>(try refine zH ?_)<;>intro hguard<;>(try exact zX)<;>try intro K' hK'))<;>((try simp +contextual only [go_sem, hkI, hvn]);(repeat' first|(with_reducible refine hK' _ _ ?_;clear hK' K')|((with_reducible first|refine ⟨_,_,(hDb _ rfl),?_⟩|refine ⟨_,(hDb _ rfl),?_⟩|refine ⟨_,_,(hAl _ rfl),?_⟩|refine ⟨_,(hAl _ rfl),?_⟩);try simp +contextual only [go_sem, hkI, hvn])|exact zY|with_reducible refine And.intro ?_ ?_|(with_reducible intro hpath;try exact zP)|(refine hK' _ _ ?_;clear hK' K')|fail);try refine zS ?_))|(refine zE ?_;refine hK _ _ ?_;clear hK K)|(refine zN ?_;try refine zS ?_)|refine zA ?_|(refine zB ?_;intro K hK)|(refine zC ?_ ?_<;>(try refine zH ?_)<;>intro hcond<;>try exact zX)|fail)
     simp [Rets, aret, Blk.cells, ty, Try.results93, ares, toT1, toT, borrow, borrow0, capCell, toTree0, tbool]
    ·rw [if_neg hall] at hres
     obtain ⟨q, q1, q2⟩ := some_unmarked hall
     rw [hbl] at q1
     have hsq : s q = 0 := by
      have := hG.mark q q1
      rw [q2] at this
      have h3 := of_decide_eq_false this.symm
      have := hG.s0 q
      omega
     have hnext := hstep hG q1 hsq hv hdv
     rw [Bool.not_eq_true] at hall
     rw [hall] at hAl
     have hbs := bC_set b v true
     generalize hb1 : b.set v true = b1 at *
     have hb1l := hnext.bl
     have hbb := borG_bnd (M := mulE es) (v := v) (d := d) (K := 12000) (fun u => by
      by_cases e : u = v
      ·rw [e, mulE_dia]; omega
      ·rw [mul_cnt hdist hle e]; exact ⟨hm0 _ _, hm50 _ _⟩) hdb (by omega)
     repeat' ((fail_if_success (with_reducible refine AWp.atSeq 99 ?_));(fail_if_success (with_reducible refine AWp.atLast 99 ?_));first|((first|(refine zT ?_;intro K' hK')|(refine zG ?_ ?_<;>(try refine zH ?_)<;>intro hguard<;>(try exact zX)<;>try intro K' hK'))<;>((try simp +contextual only [go_sem, hkI, hvn, hvI, hbs, bC_len, hbl, Int.toNat_natCast, Nat.mul_one, Nat.zero_add]);(repeat' first|(with_reducible refine hK' _ _ ?_;clear hK' K')|((with_reducible first|refine ⟨_,_,(hDb _ rfl),?_⟩|refine ⟨_,(hDb _ rfl),?_⟩|refine ⟨_,_,(hAl _ rfl),?_⟩|refine ⟨_,(hAl _ rfl),?_⟩);try simp +contextual only [go_sem, hkI, hvn, hvI, hbs, bC_len, hbl, Int.toNat_natCast, Nat.mul_one, Nat.zero_add])|exact zY|with_reducible refine And.intro ?_ ?_|(with_reducible intro hpath;try exact zP)|(refine hK' _ _ ?_;clear hK' K')|fail);try refine zS ?_))|(refine zE ?_;refine hK _ _ ?_;clear hK K)|(refine zN ?_;try refine zS ?_)|refine zA ?_|(refine zB ?_;intro K hK)|(refine zC ?_ ?_<;>(try refine zH ?_)<;>intro hcond<;>try exact zX)|fail)
     refine AWp.loopS (α:=Nat) 60 (fun u=>[(1,.c (.ref 1 1 0 n n)),(2,.c (.ptr 0 0)),(5,.c (.ref 2 1 0 n n)),(6,.c (.int .i64 (k : Int))),(7,.c (.int .i64 (v : Int))),(8,.c (.int .i64 (u : Int)))]) (fun u=>[.box [.int .i64 (n : Int), .slice (eRows es) .none], .box (iC (borG (mulE es) v u d)), .box (bC b1)]) (fun u=>u ≤ n) (fun u=>n - u) (0) (hk:=Weak.headL 3 60 [1, 2, 5, 6, 7, 8] (zV2 @iC_in @bC_inS)) (h0:=?_) (round:=fun u hI=>?_)
     ·exact Nat.zero_le _
     ·have hu : u ≤ n := hI
      clear hI
      by_cases hul : u < n
      ·have huI : (u : Int) < (n : Int) := by omega
       by_cases huv : u = v
       ·subst huv
        rw [show (k : Int) = k from rfl]
        have hsame := borG_same (mulE es) u d
        generalize hN1 : borG (mulE es) u (u + 1) d = N1 at *
        generalize borG (mulE es) u u d = N0 at *
        refine zR (zc @huI trivial) trivial trivial ?_
        refine ⟨u + 1,Weak.headF 3 60 [1, 2, 5, 6, 7, 8] (zc @hN1 (zc @hsame trivial)) (zV2 @iC_in @bC_inS),?_,?_⟩
        ·exact hul
        ·omega
       ·have huvI : ¬ (u : Int) = (v : Int) := by omega
        have hsucc := borG_succ (mulE es) v u d huv
        have hbu := hbb u (by omega)
        have hlu := borG_len (mulE es) v d u
        rw [hdl] at hlu
        rw [mul_cnt hdist hle huv] at hsucc
        have hc0 := hm0 (min (u : Int) v) (max (u : Int) v)
        have hc5 := hm50 (min (u : Int) v) (max (u : Int) v)
        have hBuv := hBet u v
        generalize cntL es (min (u : Int) v) (max (u : Int) v) = cc at *
        have g1 := iC_get (getD_get (d := borG (mulE es) v u d) (i := u) (by omega))
        have b1 := hbu u
        have b2 := hbu v
        have e1 := iC_set (borG (mulE es) v u d) u ((borG (mulE es) v u d).getD u 0 - cc)
        have g2 := iC_get (getD_get (d := (borG (mulE es) v u d).set u ((borG (mulE es) v u d).getD u 0 - cc)) (i := v) (by rw [List.length_set]; omega))
        have e2 := iC_set ((borG (mulE es) v u d).set u ((borG (mulE es) v u d).getD u 0 - cc)) v (((borG (mulE es) v u d).set u ((borG (mulE es) v u d).getD u 0 - cc)).getD v 0 + cc)
        have l1 : ((borG (mulE es) v u d).set u ((borG (mulE es) v u d).getD u 0 - cc)).length = n := by rw [List.length_set]; exact hlu
        have b3 : ((borG (mulE es) v u d).set u ((borG (mulE es) v u d).getD u 0 - cc)).getD v 0 = (borG (mulE es) v u d).getD v 0 := by
         rw [getD_set_int _ _ _ _ (by omega), if_neg (by omega)]
        rw [← b3] at b2
        rw [← hsucc] at e2
        generalize hN1 : borG (mulE es) v (u + 1) d = N1 at *
        generalize borG (mulE es) v u d = N0 at *
        generalize N0.getD u 0 = x at *
        generalize N0.set u (x - cc) = N2 at *
        generalize N2.getD v 0 = y at *
        clear b3 hbb hbu hnext hstep hlow hres hsucc
        refine zJ trivial (zc @huI (zc @huvI (zc @hvI (zc @g1 (zc @g2 (zc @e1 (zc @e2 (zc @iC_len (zc @hlu (zc @l1 (zc @Nat.zero_add trivial))))))))))) trivial (zc @hBuv trivial) trivial ?_
        refine ⟨u + 1,Weak.headF 3 60 [1, 2, 5, 6, 7, 8] (zc @hN1 trivial) (zV2 @iC_in @bC_inS),?_,?_⟩
        ·exact hul
        ·omega
      ·have hnl : ¬ (u : Int) < (n : Int) := by omega
       have eu : u = n := by omega
       rw [eu]
       rw [eu] at hnl
       generalize hN1 : borG (mulE es) v n d = N1 at *
       refine zR (zc @hnl trivial) trivial trivial ?_
       refine ⟨(k + 1, (N1, b1)),Weak.headN 3 60 [1, 2, 5, 6] (zV2 @iC_in @bC_inS),?_,?_⟩
       ·exact ⟨by omega, ⟨_, hnext⟩, hres⟩
       ·simp only; omega
  ·have hnl : ¬ (k : Int) < 10000000 := by omega
   have ek : T - k = 0 := by omega
   rw [ek] at hres
   have e : W = false := by rw [← hres]; rfl
   subst e
   refine zR (zc @hnl trivial) trivial trivial ?_
   simp [Rets, aret, Blk.cells, ty, Try.results93, ares, toT1, toT, borrow, borrow0, capCell, toTree0, tbool]
end Go.Proofs.Ytdhfgihnoimoaaa
namespace Go.Proofs.Ytdhfgihnoimoaaa
open Go.Sp
def partL (n d k : Nat) : List (List Int) := (List.range k).flatMap fun j => (lstD n (d - j)).map fun r => (j : Int) :: r
theorem partL_succ (n d k : Nat) : partL n d (k + 1) = partL n d k ++ (lstD n (d - k)).map fun r => (k : Int) :: r := by
 unfold partL; rw [List.range_succ, List.flatMap_append]; simp
theorem lstD_part (n d : Nat) : lstD (n + 2) d = partL (n + 1) d (d + 1) := rfl
theorem lstD_len : ∀ n d D : Nat, d ≤ D → (lstD (n + 1) d).length ≤ (D + 1) ^ n
 | 0, d, D, _ => by simp [lstD]
 | n + 1, d, D, h => by
  have key : ∀ k, k ≤ d + 1 → (partL (n + 1) d k).length ≤ k * (D + 1) ^ n := fun k => by
   induction k with
   | zero => intro _; simp [partL]
   | succ k ih =>
    intro hk
    have h1 := ih (by omega)
    have h2 := lstD_len n (d - k) D (by omega)
    rw [partL_succ, List.length_append, List.length_map, Nat.add_mul]; omega
  have h1 := key (d + 1) (Nat.le_refl _)
  have h2 : (d + 1) * (D + 1) ^ n ≤ (D + 1) * (D + 1) ^ n := Nat.mul_le_mul_right _ (by omega)
  rw [lstD_part, Nat.pow_succ, Nat.mul_comm ((D + 1) ^ n)]; omega
theorem partL_len (n d D k : Nat) (hd : d ≤ D) (hk : k ≤ d + 1) : (partL (n + 1) d k).length ≤ (D + 1) ^ (n + 1) := by
 have key : ∀ k, k ≤ d + 1 → (partL (n + 1) d k).length ≤ k * (D + 1) ^ n := fun k => by
  induction k with
  | zero => intro _; simp [partL]
  | succ k ih =>
   intro hk
   have h1 := ih (by omega)
   have h2 := lstD_len n (d - k) D (by omega)
   rw [partL_succ, List.length_append, List.length_map, Nat.add_mul]; omega
 have h1 := key k hk
 have h2 : k * (D + 1) ^ n ≤ (D + 1) * (D + 1) ^ n := Nat.mul_le_mul_right _ (by omega)
 rw [Nat.pow_succ, Nat.mul_comm ((D + 1) ^ n)]; omega
theorem iRows_one (x : Int) (l : List Int) : [Tree.int .i64 x] :: iRows l = iRows (x :: l) := rfl
theorem Listed_ok (D : Nat) (hD : D < 2 ^ 20) : ∀ n : Nat, (D + 1) ^ n ≤ 2 ^ 36 → n ≤ 12 → ∀ d : Nat, d ≤ D → ACall Try.prog 92 [tint ((n + 1 : Nat) : Int), tint d] (.t (.slice (llRows (lstD (n + 1) d))))
 | 0, hp, hn, d, hd => by
  have h1 : ¬ (d : Int) < 0 := by omega
  refine ACall.of_body Try.func92 rfl (by kernel_rfl) ?_
  simp only [entry, Try.ntmps92, tint]
  refine zU ?_
  refine zRc (zc @h1 trivial) trivial trivial ?_
  simp [Rets, aret, Blk.cells, ty, Try.results92, ares, toT1, toT, borrow, borrow0, capCell, toTree0, lstD, llRows, iRows, chunks, List.range, List.range.loop]
 | n + 1, hp, hn, d, hd => by
  have hq : (D + 1) ^ n ≤ (D + 1) ^ (n + 1) := Nat.pow_le_pow_right (by omega) (by omega)
  have hIH := Listed_ok D hD n (by omega) (by omega)
  have h1 : ¬ (d : Int) < 0 := by omega
  have h2 : ¬ (((n + 1 + 1 : Nat) : Int) = 1) := by omega
  have h3 : ((n + 1 + 1 : Nat) : Int) - 1 = ((n + 1 : Nat) : Int) := by omega
  have hpl := fun k hk => partL_len n d D k hd hk
  have hz : partL (n + 1) d 0 = [] := rfl
  rw [lstD_part]
  refine ACall.of_body Try.func92 rfl (by kernel_rfl) ?_
  simp only [entry, Try.ntmps92, tint]
  refine zU ?_
  refine zJ (stop 6) (zc @h1 (zc @h2 trivial)) trivial trivial trivial ?_
  refine AWp.weak (Weak.opens ((fun t f => [f, f, f, f, f, t, f, f, f, f, f, f, f, f, f, f, f, f, f, f, f, f, f, f, f, f, f, f, f, f, f, f, f, f, f, f, f, f, f, f, f, f, f, f]) true false) 1 (by first | omega | simp)) ?_
  simp only [openS, openV, List.length_cons, List.length_nil, List.length_append, Nat.reduceAdd, List.cons_append, List.nil_append]
  refine zR trivial trivial trivial ?_
  refine AWp.loopS (α:=Nat) 44 (fun k=>[(0,.c (.int .i64 ((n + 1 + 1 : Nat) : Int))),(1,.c (.int .i64 (d : Int))),(5,.c (.slice (llRows (partL (n + 1) d k)) (.chain 0))),(6,.c (.int .i64 (k : Int)))]) (fun k=>[.chain (partL (n + 1) d k).length 1]) (fun k=>k ≤ d + 1) (fun k=>d + 1 - k) (0) (hk:=Weak.headL 1 44 [0, 1, 5, 6] zW) (h0:=?_) (round:=fun k hI=>?_)
  ·exact Nat.zero_le _
  ·have hk : k ≤ d + 1 := hI
   clear hI
   by_cases hkl : k < d + 1
   ·have hkI : (k : Int) ≤ (d : Int) := by omega
    have hdk : (d : Int) - (k : Int) = ((d - k : Nat) : Int) := by omega
    have hC := hIH (d - k) (by omega)
    have hsc := partL_succ (n + 1) d k
    have hl1 := hpl (k + 1) (by omega)
    have hmem : ∀ r, r ∈ lstD (n + 1) (d - k) → r.length = n + 1 := fun r hr => (mem_lstD.1 hr).1
    have hdl : d ≤ D := hd
    rw [hsc, List.length_append, List.length_map] at hl1
    generalize lstD (n + 1) (d - k) = L at *
    generalize hP1 : partL (n + 1) d (k + 1) = P1 at *
    generalize partL (n + 1) d k = P at *
    obtain ⟨Qf, hQf⟩ : ∃ Qf : Nat → List (List Int), ∀ i, Qf i = P ++ (L.take i).map fun r => (k : Int) :: r := ⟨_, fun _ => rfl⟩
    have hQ0 : Qf 0 = P := by rw [hQf]; simp
    have hQl : Qf L.length = P1 := by rw [hQf, List.take_length]; exact hsc.symm
    have hQs : ∀ i (h : i < L.length), Qf (i + 1) = Qf i ++ [(k : Int) :: L[i]] := fun i h => by
     rw [hQf, hQf, List.take_succ_eq_append_getElem h, List.map_append, List.append_assoc]; rfl
    have hQn : ∀ i, (Qf i).length ≤ P.length + L.length := fun i => by rw [hQf]; simp; omega
    clear hQf
    refine zR (zc @hkI (zc @hdk (zc @h3 trivial))) (zc hC trivial) trivial ?_
    rw [← hQ0]
    refine AWp.loopS (α:=Nat) 44 (fun i=>[(0,.c (.int .i64 ((n + 1 + 1 : Nat) : Int))),(1,.c (.int .i64 (d : Int))),(5,.c (.slice (llRows (Qf i)) (.chain 0))),(6,.c (.int .i64 (k : Int))),(7,.c (.slice (llRows L) .none)),(8,.c (.int .i64 (i : Int)))]) (fun i=>[.chain (Qf i).length 1]) (fun i=>i ≤ L.length) (fun i=>L.length - i) (0) (hk:=Weak.headL 1 44 [0, 1, 5, 6, 7, 8] zW) (h0:=?_) (round:=fun i hI=>?_)
    ·exact Nat.zero_le _
    ·have hi : i ≤ L.length := hI
     clear hI
     by_cases hil : i < L.length
     ·have hiI : (i : Int) < (L.length : Int) := by omega
      have e0 := List.getElem?_eq_getElem hil
      have e1 := llRows_get e0
      have hrl := hmem _ (List.getElem_mem hil)
      have hsn := hQs i hil
      have hqn := hQn i
      generalize L[i] = r at *
      generalize hQ1 : Qf (i + 1) = Q1 at *
      generalize Qf i = Q at *
      have hln : Q1.length = Q.length + 1 := by rw [hsn]; simp
      repeat' (first|((first|(refine zT ?_;intro K' hK')|(refine zG ?_ ?_<;>(try refine zH ?_)<;>intro hguard<;>(try exact zX)<;>try intro K' hK'))<;>((try simp +contextual only [go_sem, hiI, e1, iRows_len, llRows_len, hrl, llRows_snoc, iRows_one, Int.toNat_natCast, chunks, List.range, List.range.loop]);(repeat' first|(with_reducible refine hK' _ _ ?_;clear hK' K')|(with_reducible exact iRows_k' (by assumption))|(with_reducible exact llRows_k' (by assumption))|(exact .inr True.intro)|exact zY|with_reducible refine And.intro ?_ ?_|(with_reducible intro hpath;try exact zP)|(refine hK' _ _ ?_;clear hK' K')|fail);try refine zS ?_))|(refine zE ?_;refine hK _ _ ?_;clear hK K)|(refine zN ?_;try refine zS ?_)|refine zA ?_|(refine zB ?_;intro K hK)|(refine zC ?_ ?_<;>(try refine zH ?_)<;>intro hcond<;>try exact zX)|fail)
      rw [← hsn]
      refine ⟨i + 1,Weak.headF 1 44 [0, 1, 5, 6, 7, 8] (zc @hQ1 (zc @hln trivial)) zW,?_,?_⟩
      ·exact hil
      ·omega
     ·have hnl : ¬ (i : Int) < (L.length : Int) := by omega
      have ei : i = L.length := by omega
      rw [ei, hQl]
      rw [ei] at hnl
      refine zR (zc @hnl (zc @llRows_len trivial)) trivial trivial ?_
      refine ⟨k + 1,Weak.headF 1 44 [0, 1, 5, 6] (zc @hP1 trivial) zW,?_,?_⟩
      ·exact hkl
      ·omega
   ·have hnl : ¬ (k : Int) ≤ (d : Int) := by omega
    have ek : k = d + 1 := by omega
    rw [ek]
    rw [ek] at hnl
    generalize partL (n + 1) d (d + 1) = P at *
    refine zR (zc @hnl trivial) trivial trivial ?_
    simp [Rets, aret, Blk.cells, ty, Try.results92, ares, toT1, toT, borrow, borrow0, capCell, toTree0]
theorem subK_minL {a b : List Int} {n : Nat} (ha : a.length = n) : subK a b n n = minL a b := by
 unfold subK minL
 rw [ha]
 refine List.map_congr_left fun v hv => ?_
 rw [if_pos (List.mem_range.1 hv)]
theorem Plus_ok (a b : List Int) {n : Nat} (hn : n ≤ 100) (h1 : 1 ≤ n) (ha : a.length = n) (hb : b.length = n) (ha1 : bndL 1048576 a) (hb1 : bndL 1048576 b) :
  ACall Try.prog 94 [tints a, tints b, tint (-1)] (tints (minL a b)) := by
 have hnI : (0 : Int) ≤ (n : Int) := by omega
 have hml : (minL a b).length = n := by rw [minL_len]; exact ha
 rw [← subK_minL ha]
 refine ACall.of_body Try.func94 rfl (by kernel_rfl) ?_
 simp only [entry, Try.ntmps94, tints, tint]
 refine zU ?_
 repeat' ((fail_if_success (with_reducible refine AWp.atSeq 2 ?_));(fail_if_success (with_reducible refine AWp.atLast 2 ?_));first|((first|(refine zT ?_;intro K' hK')|(refine zG ?_ ?_<;>(try refine zH ?_)<;>intro hguard<;>(try exact zX)<;>try intro K' hK'))<;>((try simp +contextual only [go_sem, iRows_len, ha, made_ints, iC_len, List.length_replicate, Int.toNat_natCast, Nat.mul_one, Nat.zero_add]);(repeat' first|(with_reducible refine hK' _ _ ?_;clear hK' K')|exact zY|with_reducible refine And.intro ?_ ?_|(with_reducible intro hpath;try exact zP)|(refine hK' _ _ ?_;clear hK' K')|fail);try refine zS ?_))|(refine zE ?_;refine hK _ _ ?_;clear hK K)|(refine zN ?_;try refine zS ?_)|refine zA ?_|(refine zB ?_;intro K hK)|(refine zC ?_ ?_<;>(try refine zH ?_)<;>intro hcond<;>try exact zX)|fail)
 rw [← subK_zero a b n]
 refine zR trivial trivial trivial ?_
 refine AWp.loopS (α:=Nat) 33 (fun i=>[(0,.c (.slice (iRows a) .none)),(1,.c (.slice (iRows b) .none)),(2,.c (.int .i64 (-1))),(7,.c (.ref 0 1 0 n n)),(8,.c (.int .i64 (i : Int)))]) (fun i=>[.box (iC (subK a b n i))]) (fun i=>i ≤ n) (fun i=>n - i) (0) (hk:=Weak.headL 1 33 [0, 1, 2, 7, 8] zW) (h0:=?_) (round:=fun i hI=>?_)
 ·exact Nat.zero_le _
 ·have hi : i ≤ n := hI
  clear hI
  by_cases hil : i < n
  ·have hiI : (i : Int) < (n : Int) := by omega
   have ga := iRows_get (getD_get (d := a) (i := i) (by omega))
   have gb := iRows_get (getD_get (d := b) (i := i) (by omega))
   have xa := ha1 i
   have xb := hb1 i
   have hns := subK_set a b hil
   have hnl := subK_len a b n i
   have hst := iC_set (subK a b n i) i (a.getD i 0 - b.getD i 0)
   rw [hns] at hst
   clear hns ha1 hb1
   generalize hn1 : subK a b n (i + 1) = N1 at *
   generalize subK a b n i = N0 at *
   generalize a.getD i 0 = x at *
   generalize b.getD i 0 = y at *
   have hm1 : -1 * y = -y := by omega
   have hm2 : x + -y = x - y := by omega
   refine zR (zc @hiI (zc @ga (zc @gb (zc @hst (zc @hnl (zc @hm1 (zc @hm2 (zc @iC_len (zc @iRows_len (zc @ha (zc @hb (zc @Nat.zero_add trivial)))))))))))) trivial trivial ?_
   refine ⟨i + 1,Weak.headF 1 33 [0, 1, 2, 7, 8] (zc @hn1 trivial) zW,?_,?_⟩
   ·exact hil
   ·omega
  ·have hnl : ¬ (i : Int) < (n : Int) := by omega
   have ei : i = n := by omega
   rw [ei]
   rw [ei] at hnl
   have hl := subK_len a b n n
   generalize subK a b n n = d at *
   have hr0 : borrow [.box (iC d)] (.ref 0 1 0 n n) = some (.slice (iRows d)) := iC_ref hl rfl
   refine zR (zc @hnl (zc @iRows_len (zc @ha trivial))) trivial trivial ?_
   simp [Rets, aret, Try.results94, ares, toT1, toT, hr0, tints]
end Go.Proofs.Ytdhfgihnoimoaaa
