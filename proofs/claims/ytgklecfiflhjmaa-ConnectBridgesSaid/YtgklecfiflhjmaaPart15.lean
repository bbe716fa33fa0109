/- A part of the proof. -/
import Derived.Test.YtgklecfiflhjmaaPart13
import Derived.Test.YtgklecfiflhjmaaLayerC
import Derived.Test.YtgklecfiflhjmaaPart11
import Derived.Test.YtgklecfiflhjmaaPart03
import Derived.Test.YtgklecfiflhjmaaPart10
import Derived.Test.YtgklecfiflhjmaaPart05
import Derived.Test.YtgklecfiflhjmaaLayerD
set_option linter.all false
set_option maxHeartbeats 4000000
set_option maxRecDepth 100000
namespace Go.Proofs.Ytgklecfiflhjmaa
open Go.Sp
theorem fC_in {m : Nat} {F : List Nat} : Go.Sp.cellsIn m (fC F) := cellsIn_map fun _ => True.intro
def tF (F : List Nat) : TVal := .agg (fT F)
theorem fT_of (F : List Nat) : (fT F).map ofTree = fC F := by simp [fT, fC, ofTree]
theorem fC_store (Z F : List Nat) (h : Z.length = F.length) : setMany (fC Z) 0 (fC F) = fC F := by
 apply List.ext_getElem?
 intro i
 rw [setMany_get _ _ _ _ (by simp [fC_len, h])]
 by_cases hi : i < F.length
 ·rw [if_pos ⟨Nat.zero_le _, by rw [fC_len]; omega⟩, Nat.sub_zero]
 ·rw [if_neg (by rw [fC_len]; omega), List.getElem?_eq_none (by rw [fC_len]; omega), List.getElem?_eq_none (by rw [fC_len]; omega)]
theorem fC_free : ∀ F : List Nat, anyFree (fC F) = true
 | [] => rfl
 | _ :: F => fC_free F
theorem fC_borrow (H : List Blk) : ∀ F : List Nat, (fC F).mapM (borrow H) = some (fT F)
 | [] => rfl
 | x :: F => by
  have ih := fC_borrow H F
  simp only [fC, fT, List.map_cons, List.mapM_cons] at ih ⊢
  rw [ih]; rfl
theorem cgrown_ok : ACall Try.prog 67 [] (tF (List.range 12)) := by
 refine ACall.of_body Try.func67 rfl (by kernel_rfl) ?_
 simp only [entry, Try.ntmps67]
 refine zU ?_
 refine zR trivial trivial trivial ?_
 refine AWp.loopS (α:=Nat) 11 (fun i=>[(0,.c (.ptr 0 0)),(1,.c (.ptr 1 0)),(3,.c (.int .i64 (i : Int)))]) (fun i=>[.box (fC (List.replicate 12 0)), .box (fC (initF i))]) (fun i=>i ≤ 12) (fun i=>12 - i) (0) (hk:=Weak.headL 2 11 [0, 1, 3] (zV @fC_in)) (h0:=?_) (round:=fun i hI=>?_)
 ·exact Nat.zero_le _
 ·by_cases hlt : i < 12
  ·have hset := initF_set hlt
   have hlen := initF_len hI
   generalize initF i = F at *
   refine zR (zc @fC_len (zc @hlen (zc @fC_set (zc @fC_set2 (zc @hset trivial))))) trivial trivial ?_
   refine ⟨i + 1,Weak.headN 2 11 [0, 1, 3] (zV @fC_in),?_,?_⟩
   ·exact hlt
   ·omega
  ·have ei : i = 12 := by omega
   subst ei
   rw [initF_12]
   have hl : (List.range 12).length = 12 := List.length_range
   generalize List.range 12 = F at *
   have ht : (fC F).take 12 = fC F := List.take_of_length_le (by rw [fC_len, hl]; exact Nat.le_refl _)
   have hs := fC_store (List.replicate 12 0) F (by simp [hl])
   have hlr : (List.replicate 12 0 : List Nat).length = 12 := by simp
   generalize List.replicate 12 0 = Z at *
   refine zR (zc @fC_len (zc @hl (zc @hlr (zc @ht (zc @hs (zc @fC_free trivial)))))) trivial trivial ?_
   have hm := fC_borrow [Blk.box (fC F), Blk.box (fC F)] F
   simp [Rets, aret, Blk.cells, ty, Try.results67, ares, toT1, toT, borrow, borrow0, capCell, toTree0, hm, hl, ht, fC_len, tF]
theorem croot_ok (F : List Nat) (h : FOk F) (v : Nat) (hv : v < 12) : ACall Try.prog 81 [.t (.rptr (fT F)), tint v] (tint (rootF F 12 v)) := by
 have hF := h.len
 refine ACall.of_body Try.func81 rfl (by kernel_rfl) ?_
 simp only [entry, Try.ntmps81, tint]
 refine zU ?_
 refine zR trivial trivial trivial ?_
 refine AWp.loopS (α:=Nat) 18 (fun u=>[(0,.c (.rptr (fT F))),(1,.c (.int .i64 (u : Int)))]) (fun u=>[]) (fun u=>u < 12 ∧ rootF F 12 v = rootF F 12 u) (fun u=>u) (v) (hk:=Weak.headL 0 18 [0, 1] (zV @fC_in)) (h0:=?_) (round:=fun u hI=>?_)
 ·exact ⟨hv, rfl⟩
 ·obtain ⟨hu, hx⟩ := hI
  have hul : u < F.length := by omega
  have e1 := fT_drop hul
  have e2 := rootF_step h hul
  have e3 := h.le u hul
  repeat' (first|((first|(refine zT ?_;intro K' hK')|(refine zG ?_ ?_<;>(try refine zH ?_)<;>intro hguard<;>(try exact zX)<;>try intro K' hK'))<;>((try simp +contextual only [go_sem, e1, Int.toNat_natCast, Nat.mul_one]);(repeat' first|(with_reducible refine hK' _ _ ?_;clear hK' K')|exact zY|with_reducible refine And.intro ?_ ?_|(with_reducible intro hpath;try exact zP)|(refine hK' _ _ ?_;clear hK' K')|fail);try refine zS ?_))|(refine zE ?_;refine hK _ _ ?_;clear hK K)|(refine zN ?_;try refine zS ?_)|refine zA ?_|(refine zB ?_;intro K hK)|(refine zC ?_ ?_<;>(try refine zH ?_)<;>intro hcond<;>try exact zX)|fail)
  ·rw [if_neg (by omega)] at e2
   refine ⟨F[u],Weak.headN 0 18 [0, 1] (zV @fC_in),?_,?_⟩
   ·exact ⟨by omega, by rw [hx, e2]⟩
   ·omega
  ·rw [if_pos (by omega)] at e2
   have e : rootF F 12 v = u := by rw [hx, e2]
   simp [Rets, aret, Blk.cells, ty, Try.results81, ares, toT1, toT, borrow, borrow0, capCell, toTree0, tint, e]
theorem croot_call (F : List Nat) (h : FOk F) (v : Nat) (hv : v < 12) {H : List Blk} {id : Nat} (hb : H[id]? = some (.box (fC F))) :
  ACallH Try.prog 81 H [.c (.ptr id 0), .c (.int .i64 (v : Int))] H (.c (.int .i64 (rootF F 12 v : Nat))) :=
 ACall.hb (croot_ok F h v hv) (by simp [toT, borrow, borrow0, hb, Blk.cells, mapM_fT, toTree0, tint]) rfl
theorem cjoin_ok (F : List Nat) (h : FOk F) (a b : Nat) (ha : a < 12) (hb : b < 12) {H : List Blk} {id : Nat} (hid : H[id]? = some (.box (fC F))) :
  ACallH Try.prog 68 H [.c (.ptr id 0), .c (.int .i64 (a : Int)), .c (.int .i64 (b : Int))] (H.set id (.box (fC (F.set (max (rootF F 12 a) (rootF F 12 b)) (min (rootF F 12 a) (rootF F 12 b)))))) (.tup []) := by
 have rx := croot_call F h a ha hid
 have ry := croot_call F h b hb hid
 have la := rootF_le h (n := 12) ha
 have lb := rootF_le h (n := 12) hb
 generalize rootF F 12 a = x at *
 generalize rootF F 12 b = y at *
 have hmax : max (x : Int) (y : Int) = ((max x y : Nat) : Int) := by omega
 have hmin : min (x : Int) (y : Int) = ((min x y : Nat) : Int) := by omega
 refine ACallH.of_body Try.func68 rfl (by kernel_rfl) ?_
 simp only [entry, Try.ntmps68, List.length_cons, List.length_nil, Nat.reduceAdd, Nat.reduceSub, List.replicate_succ, List.replicate_zero, List.cons_append, List.nil_append]
 repeat' (first|((first|(refine zT ?_;intro K' hK')|(refine zG ?_ ?_<;>(try refine zH ?_)<;>intro hguard<;>(try exact zX)<;>try intro K' hK'))<;>((try simp +contextual only [go_sem, Int.toNat_natCast, Nat.mul_one, fC_len, fC_set, fC_set2, hmax, hmin, h.len, hid]);(repeat' first|(with_reducible refine hK' _ _ ?_;clear hK' K')|((with_reducible first|refine ⟨_,_,rx,?_⟩|refine ⟨_,rx,?_⟩|refine ⟨_,_,ry,?_⟩|refine ⟨_,ry,?_⟩);try simp +contextual only [go_sem, Int.toNat_natCast, Nat.mul_one, fC_len, fC_set, fC_set2, hmax, hmin, h.len, hid])|exact zY|with_reducible refine And.intro ?_ ?_|(with_reducible intro hpath;try exact zP)|(refine hK' _ _ ?_;clear hK' K')|fail);try refine zS ?_))|(refine zE ?_;refine hK _ _ ?_;clear hK K)|(refine zN ?_;try refine zS ?_)|refine zA ?_|(refine zB ?_;intro K hK)|(refine zC ?_ ?_<;>(try refine zH ?_)<;>intro hcond<;>try exact zX)|fail)
 simp [RetsH, aretH, ares, noTup, Try.results68]
def isP (a b : Int) (p : Int × Int) : Bool := decide (min p.1 p.2 = a ∧ max p.1 p.2 = b)
theorem cntL_bag (l : List (Int × Int)) (a b : Int) : ∀ k, k ≤ l.length → cntL (bagL (l.take k)) a b = ((l.take k).countP (isP a b) : Int) := by
 intro k
 induction k with
 | zero => intro _; rfl
 | succ k ih =>
  intro hk
  have e0 := List.getElem?_eq_getElem (l := l) (i := k) (by omega)
  rw [take_snoc e0, bagL_snoc, bagStep, cntL_put, List.countP_append, List.countP_cons, List.countP_nil]
  have ih := ih (by omega)
  by_cases h : a = min l[k].1 l[k].2 ∧ b = max l[k].1 l[k].2
  ·rw [if_pos h, ← h.1, ← h.2, ih, if_pos (by unfold isP; simp [h.1, h.2])]; omega
  ·rw [if_neg h, ih, if_neg (by unfold isP; simp only [decide_eq_true_eq]; omega)]; omega
theorem cnt_ends {es : List E} (hs : es.Pairwise ltE) (hr : ∀ e, e ∈ es → e.a ≤ e.b ∧ 1 ≤ e.m) (a b : Int) : ((endsL es).countP (isP a b) : Int) = cntL es a b := by
 induction es with
 | nil => rfl
 | cons x xs ih =>
  have hp := List.pairwise_cons.1 hs
  have hx := hr x (by simp)
  have ih := ih hp.2 fun e he => hr e (by simp [he])
  have e : endsL (x :: xs) = endsL [x] ++ endsL xs := by rw [← endsL_append]; rfl
  rw [e, endsL_one, List.countP_append, List.countP_replicate]
  simp only [cntL]
  by_cases h : x.a = a ∧ x.b = b
  ·have h0 : cntL xs a b = 0 := by
    by_cases h0 : cntL xs a b = 0
    ·exact h0
    ·have := hp.1 _ (mem_of_cntL h0)
     unfold ltE at this; simp only at this; omega
   rw [if_pos h, if_pos (by unfold isP; simp only [decide_eq_true_eq]; omega)]
   omega
  ·rw [if_neg h, if_neg (by unfold isP; simp only [decide_eq_true_eq]; omega)]
   omega
theorem bag_ok {n : Int} {l : List (Int × Int)} (h : ∀ p, p ∈ l → okP n p) : ∀ k, k ≤ l.length → BagOk n k (bagL (l.take k)) := by
 intro k
 induction k with
 | zero => intro _; exact ⟨List.Pairwise.nil, by simp [bagL], by simp [bagL], by simp [bagL]⟩
 | succ k ih =>
  intro hk
  have e0 := List.getElem?_eq_getElem (l := l) (i := k) (by omega)
  have ho := h _ (List.getElem_mem (by omega : k < l.length))
  rw [take_snoc e0, bagL_snoc]
  exact bag_step (ih (by omega)) ho.1 ho.2
instance (n : Int) (p : Int × Int) : Decidable (okP n p) := by unfold okP; infer_instance
theorem _root_.Go.Sp.Weak.untok {h : Nat} {tm : List AVal} {H : List Blk} (t : Nat) {rows : List (List Tree)} {tok : Tok} (ht : tm[t]? = some (.c (.slice rows tok))) : Weak h ⟨tm, H⟩ ⟨tm.set t (.c (.slice rows .none)), H⟩ := by
 intro ι σ a w hr
 exact ⟨ι, ⟨tmps_set ht (fun v hv => ⟨hv.1, trivial⟩) hr.tmps, hr.heap⟩, rfl, rfl⟩
def pairsE (es : List E) : List (Int × Int) := es.map fun e => (e.a, e.b)
theorem pairs_range {g : G} (hc : checkG g = 0) {p : Int × Int} (h : p ∈ pairsE g.es) : (0 ≤ p.1 ∧ p.1 < g.n) ∧ (0 ≤ p.2 ∧ p.2 < g.n) := by
 obtain ⟨e, he, rfl⟩ := List.mem_map.1 h
 have := (checkG_zero.1 hc).2.1 e he
 unfold okE at this
 simp only; omega
theorem pairs_in12 {g : G} (hc : checkG g = 0) : In12 (pairsE g.es) := fun p hp => by
 have := pairs_range hc hp
 have := (checkG_zero.1 hc).1
 omega
def zero12 : List Nat := List.replicate 12 0
theorem zero12_len : zero12.length = 12 := by simp [zero12]
theorem cjoined_ok (g : G) (hc : checkG g = 0) (hl : g.es.length < 2 ^ 30) : ACall Try.prog 58 [tG g] (tF (genS (pairsE g.es)).1) := by
 have h12 := pairs_in12 hc
 obtain ⟨n, es⟩ := g
 simp only at h12 hl ⊢
 have hg := cgrown_ok
 have hr12 : (List.range 12).length = 12 := List.length_range
 have h0 : (genS ((pairsE es).take 0)).1 = List.range 12 := rfl
 refine ACall.of_body Try.func58 rfl (by kernel_rfl) ?_
 simp only [entry, Try.ntmps58, tG]
 refine zU ?_
 generalize hR : List.range 12 = R at *
 have hof : (fT R).map ofTree = fC R := fT_of R
 have hst := fC_store zero12 R (by rw [hr12]; rfl)
 have hlz : zero12.length = 12 := zero12_len
 have hz : fC zero12 = [.int .i64 0, .int .i64 0, .int .i64 0, .int .i64 0, .int .i64 0, .int .i64 0, .int .i64 0, .int .i64 0, .int .i64 0, .int .i64 0, .int .i64 0, .int .i64 0] := rfl
 rw [hz] at hst
 unfold tF at hg
 refine zR (zc @eRows_len (zc @fC_len (zc @fC_free (zc @hof (zc @hst (zc @hr12 trivial)))))) (zc hg trivial) trivial ?_
 rw [← h0]
 refine AWp.loopS (α:=Nat) 21 (fun i=>[(2,.c (.ptr 1 0)),(3,.c (.ptr 2 0)),(8,.c (.slice (eRows es) .none)),(9,.c (.int .i64 (es.length : Int))),(10,.c (.int .i64 (i : Int)))]) (fun i=>[.box [.int .i64 n, .slice (eRows es) .none], .box (fC zero12), .box (fC (genS ((pairsE es).take i)).1)]) (fun i=>i ≤ es.length) (fun i=>es.length - i) (0) (hk:=Weak.headL 3 21 [2, 3, 8, 9, 10] (zV @fC_in)) (h0:=?_) (round:=fun i hI=>?_)
 ·exact Nat.zero_le _
 ·have hi : i ≤ es.length := hI
  clear hI
  have hok := genS_ok (l := (pairsE es).take i) fun q hq => h12 q (List.mem_of_mem_take hq)
  by_cases hlt : i < es.length
  ·have hltI : (i : Int) < es.length := by omega
   have e0 := List.getElem?_eq_getElem hlt
   have e1 := eRows_get e0
   have hp : (pairsE es)[i]? = some (es[i].a, es[i].b) := by simp [pairsE, e0]
   have hsn := take_snoc hp
   have hnx := genS_snoc ((pairsE es).take i) (es[i].a, es[i].b)
   rw [← hsn] at hnx
   have hrng := h12 _ (List.mem_of_getElem? hp)
   generalize es[i] = x at *
   obtain ⟨xa, xb, xm⟩ := x
   simp only at hrng hnx e1
   obtain ⟨a, rfl⟩ := Int.eq_ofNat_of_zero_le hrng.1.1
   obtain ⟨b, rfl⟩ := Int.eq_ofNat_of_zero_le hrng.2.1
   have ha : a < 12 := by omega
   have hb : b < 12 := by omega
   have hF := hok.1
   simp only [genStep, Int.toNat_natCast] at hnx
   have hn1 := congrArg Prod.fst hnx
   simp only at hn1
   generalize (genS ((pairsE es).take i)).1 = F at *
   have hJ := cjoin_ok F hF a b ha hb (H := [.box [.int .i64 n, .slice (eRows es) .none], .box (fC zero12), .box (fC F), .box [.int .i64 (a : Int), .int .i64 (b : Int), .int .i64 xm]]) (id := 2) rfl
   rw [← hn1] at hJ
   simp only [List.set_cons_succ, List.set_cons_zero] at hJ
   repeat' (first|((first|(refine zT ?_;intro K' hK')|(refine zG ?_ ?_<;>(try refine zH ?_)<;>intro hguard<;>(try exact zX)<;>try intro K' hK'))<;>((try simp +contextual only [go_sem, hltI, e1, eRows_len, Int.toNat_natCast]);(repeat' first|(with_reducible refine hK' _ _ ?_;clear hK' K')|((with_reducible first|refine ⟨_,_,hJ,?_⟩|refine ⟨_,hJ,?_⟩);try simp +contextual only [go_sem, hltI, e1, eRows_len, Int.toNat_natCast])|exact zY|with_reducible refine And.intro ?_ ?_|(with_reducible intro hpath;try exact zP)|(refine hK' _ _ ?_;clear hK' K')|fail);try refine zS ?_))|(refine zE ?_;refine hK _ _ ?_;clear hK K)|(refine zN ?_;try refine zS ?_)|refine zA ?_|(refine zB ?_;intro K hK)|(refine zC ?_ ?_<;>(try refine zH ?_)<;>intro hcond<;>try exact zX)|fail)
   refine ⟨i + 1,Weak.headN 3 21 [2, 3, 8, 9, 10] (zV @fC_in),?_,?_⟩
   ·exact hlt
   ·omega
  ·have ei : i = es.length := by omega
   subst ei
   have hnl : ¬ ((es.length : Int) < es.length) := by omega
   have htk : (pairsE es).take es.length = pairsE es := List.take_of_length_le (by simp [pairsE])
   rw [htk]
   rw [htk] at hok
   have hlF := hok.1.len
   generalize (genS (pairsE es)).1 = F at *
   have ht : (fC F).take 12 = fC F := List.take_of_length_le (by rw [fC_len, hlF]; exact Nat.le_refl _)
   have hs := fC_store zero12 F (by rw [hlF]; rfl)
   generalize zero12 = Z at *
   refine zR (zc @hnl (zc @fC_len (zc @hlF (zc @hlz (zc @ht (zc @hs (zc @fC_free trivial))))))) trivial trivial ?_
   have hm := fC_borrow [Blk.box [.int .i64 n, .slice (eRows es) .none], Blk.box (fC F), Blk.box (fC F)] F
   simp [Rets, aret, Blk.cells, ty, Try.results58, ares, toT1, toT, borrow, borrow0, capCell, toTree0, hm, hlF, ht, fC_len, tF]
def zI (T : List Nat) : List Int := T.map fun x : Nat => (x : Int)
theorem zI_len (T : List Nat) : (zI T).length = T.length := by simp [zI]
def LI (L : List (Nat × Nat)) : List (Int × Int) := L.map fun p => ((p.1 : Int), (p.2 : Int))
def oI (out : List (List Nat)) : List (List Int) := out.map zI
theorem oI_len (T : List (List Nat)) : (oI T).length = T.length := by simp [oI]
def atC (L : List (Nat × Nat)) : List ACell := (List.range 12).map fun v => ACell.slice (iRows (zI (atV L v))) .none
theorem atC_in {m : Nat} {L : List (Nat × Nat)} : Go.Sp.cellsIn m (atC L) := cellsIn_map fun _ => trivial
theorem atC_len (L : List (Nat × Nat)) : (atC L).length = 12 := by simp [atC]
theorem atC_drop {L : List (Nat × Nat)} {v : Nat} (h : v < 12) : (atC L).drop v = .slice (iRows (zI (atV L v))) .none :: (atC L).drop (v + 1) := by
 have hl : v < (atC L).length := by rw [atC_len]; exact h
 rw [List.drop_eq_getElem_cons hl]
 congr 1
 simp [atC]
theorem atC_get {L : List (Nat × Nat)} {v : Nat} (h : v < 12) : (atC L)[v]? = some (.slice (iRows (zI (atV L v))) .none) := by
 unfold atC
 rw [List.getElem?_map, List.getElem?_range h]; rfl
theorem fC_get {F : List Nat} {i : Nat} (h : i < F.length) : (fC F)[i]? = some (.int .i64 ((F.getD i 0 : Nat) : Int)) := by
 unfold fC
 rw [List.getElem?_map, List.getElem?_eq_getElem h, List.getD_eq_getElem?_getD, List.getElem?_eq_getElem h]; rfl
theorem zI_get {T : List Nat} {i e : Nat} (h : T[i]? = some e) : (iRows (zI T))[i]? = some [.int .i64 (e : Int)] := iRows_get (by unfold zI; rw [List.getElem?_map, h]; rfl)
theorem LI_get {L : List (Nat × Nat)} {e : Nat} {p : Nat × Nat} (h : L[e]? = some p) : (pRows (LI L))[e]? = some [.int .i64 (p.1 : Int), .int .i64 (p.2 : Int)] := by
 have h2 : (LI L)[e]? = some ((p.1 : Int), (p.2 : Int)) := by unfold LI; rw [List.getElem?_map, h]; rfl
 exact pRows_get h2
theorem LI_len (L : List (Nat × Nat)) : (pRows (LI L)).length = L.length := by simp [pRows, LI]
def vCaps : List ACap := [.ptr 7 0, .ptr 5 0, .ptr 6 0, .ptr 2 0, .ptr 1 0, .ptr 8 0, .ptr 9 0, .ptr 3 0]
theorem vcaps_in {m : Nat} (h : 10 ≤ m) : cellIn m (.fn 75 vCaps) := by
 intro c hc
 simp only [vCaps, List.mem_cons, List.not_mem_nil, or_false] at hc
 rcases hc with rfl | rfl | rfl | rfl | rfl | rfl | rfl | rfl <;> (show _ < _; omega)
def VH (b0 : Blk) (L : List (Nat × Nat)) (s : BS) (j cap : Nat) (X : List Blk) : List Blk :=
 b0 :: .box [.slice (pRows (LI L)) .none] :: .box (atC L) :: .box [.slice (llRows (oI s.out)) (.chain 4)] :: .chain s.out.length 1 :: .box (fC s.seen) :: .box (fC s.low) :: .box [.int .i64 (s.time : Int)] :: .box [.vec (j + 10) s.opn.length cap] :: .box [.fn 75 vCaps] :: X
structure VX (s : BS) (j cap : Nat) (X : List Blk) : Prop where
 vec : X[j]? = some (.box (fC s.opn ++ List.replicate (cap - s.opn.length) .any))
 cap : s.opn.length ≤ cap
 inn : ∀ b, b ∈ X → ∀ m, blkIn m b
theorem vx_in {s : BS} {j cap m : Nat} {X : List Blk} (h : VX s j cap X) : blksIn m X := fun b hb => h.inn b hb m
theorem vbox_in (F : List Nat) (n : Nat) (m : Nat) : blkIn m (.box (fC F ++ List.replicate n .any)) := by
 intro c hc
 rcases List.mem_append.1 hc with hc | hc
 ·exact fC_in c hc
 ·rw [(List.mem_replicate.1 hc).2]; trivial
theorem VX.push_in {s : BS} {j cap e : Nat} {X : List Blk} (h : VX s j cap X) (hc : s.opn.length < cap) : VX (pushB e s) j cap (X.set j (.box (fC (s.opn ++ [e]) ++ List.replicate (cap - (s.opn.length + 1)) .any))) := by
 have hj : j < X.length := (List.getElem?_eq_some_iff.1 h.vec).1
 have hl : (pushB e s).opn.length = s.opn.length + 1 := by simp [pushB]
 refine ⟨?_, by rw [hl]; omega, fun b hb m => ?_⟩
 ·rw [List.getElem?_set_self hj, hl]; rfl
 ·rcases List.mem_or_eq_of_mem_set hb with hb | rfl
  ·exact h.inn b hb m
  ·exact vbox_in _ _ _
theorem VX.push_new {s : BS} {j cap cap' e : Nat} {X : List Blk} (h : VX s j cap X) (hc : s.opn.length + 1 ≤ cap') : VX (pushB e s) X.length cap' (X ++ [.box (fC (s.opn ++ [e]) ++ List.replicate (cap' - (s.opn.length + 1)) .any)]) := by
 have hl : (pushB e s).opn.length = s.opn.length + 1 := by simp [pushB]
 refine ⟨?_, by rw [hl]; exact hc, fun b hb m => ?_⟩
 ·rw [List.getElem?_append_right (Nat.le_refl _), Nat.sub_self, hl]; rfl
 ·rcases List.mem_append.1 hb with hb | hb
  ·exact h.inn b hb m
  ·rw [List.mem_singleton.1 hb]; exact vbox_in _ _ _
theorem VX.cut {s s' : BS} {j cap m : Nat} {X : List Blk} (h : VX s j cap X) (hm : m ≤ s.opn.length) (he : s'.opn = s.opn.take m) : VX s' j cap (X.set j (.box (fC (s.opn.take m) ++ List.replicate (cap - m) .any)) ++ [.box [.any]]) := by
 have hj : j < X.length := (List.getElem?_eq_some_iff.1 h.vec).1
 have hl : s'.opn.length = m := by rw [he, List.length_take]; omega
 refine ⟨?_, by rw [hl]; have := h.cap; omega, fun b hb m => ?_⟩
 ·rw [List.getElem?_append_left (by rw [List.length_set]; exact hj), List.getElem?_set_self hj, hl, he]
 ·rcases List.mem_append.1 hb with hb | hb
  ·rcases List.mem_or_eq_of_mem_set hb with hb | rfl
   ·exact h.inn b hb m
   ·exact vbox_in _ _ _
  ·rw [List.mem_singleton.1 hb]; intro c hc; rw [List.mem_singleton.1 hc]; trivial
theorem cut_weak {A : List Nat} {m cap : Nat} (hm : m ≤ A.length) (hc : A.length ≤ cap) (p : Nat) (c' : ACell) (h : (fC (A.take m) ++ List.replicate (cap - m) ACell.any)[p]? = some c') :
  (fC A ++ List.replicate (cap - A.length) ACell.any)[p]? = some c' ∨ (c' = .any ∧ p < (fC A ++ List.replicate (cap - A.length) ACell.any).length) := by
 have hl : (fC (A.take m)).length = m := by rw [fC_len, List.length_take]; omega
 by_cases hp : p < m
 ·left
  rw [List.getElem?_append_left (by rw [hl]; exact hp)] at h
  rw [List.getElem?_append_left (by rw [fC_len]; omega), ← h]
  unfold fC
  rw [List.getElem?_map, List.getElem?_map, List.getElem?_take_of_lt hp]
 ·right
  rw [List.getElem?_append_right (by rw [hl]; omega)] at h
  have h1 := (List.mem_replicate.1 (List.mem_of_getElem? h)).2
  have h2 := (List.getElem?_eq_some_iff.1 h).1
  rw [hl, List.length_replicate] at h2
  exact ⟨h1, by rw [List.length_append, fC_len, List.length_replicate]; omega⟩
theorem VH_push (b0 : Blk) (L : List (Nat × Nat)) (s : BS) (e j cap : Nat) (X : List Blk) : VH b0 L (pushB e s) j cap X = b0 :: .box [.slice (pRows (LI L)) .none] :: .box (atC L) :: .box [.slice (llRows (oI s.out)) (.chain 4)] :: .chain s.out.length 1 :: .box (fC s.seen) :: .box (fC s.low) :: .box [.int .i64 (s.time : Int)] :: .box [.vec (j + 10) (s.opn.length + 1) cap] :: .box [.fn 75 vCaps] :: X := by
 simp [VH, pushB]
theorem stepB_pre (L : List (Nat × Nat)) {rec : Nat → Int → BS → BS} (hrec : ∀ w b s, ∃ Y, (rec w b s).opn = s.opn ++ Y) (v : Nat) (by' : Int) (s : BS) (e : Nat) : ∃ Y, (stepB L rec v by' s e).opn = s.opn ++ Y := by
 unfold stepB
 simp only
 split
 ·exact ⟨[], by simp⟩
 split
 ·obtain ⟨Y, hY⟩ := hrec ((L.getD e (0, 0)).1 + (L.getD e (0, 0)).2 - v) e (pushB e s)
  generalize rec _ _ _ = s1 at *
  have h1 : (lowB v (s1.low.getD ((L.getD e (0, 0)).1 + (L.getD e (0, 0)).2 - v) 0) s1).opn = s.opn ++ (e :: Y) := by
   show s1.opn = _
   rw [hY]; simp [pushB]
  unfold closeB
  split
  ·refine ⟨[], ?_⟩
   show (lowB v _ s1).opn.take s.opn.length = _
   rw [h1]; simp
  ·exact ⟨_, h1⟩
 split
 ·exact ⟨[e], rfl⟩
 ·exact ⟨[], by simp⟩
theorem visB_pre (L : List (Nat × Nat)) : ∀ (k w : Nat) (b : Int) (s : BS), ∃ Y, (visB L k w b s).opn = s.opn ++ Y
 | 0, w, b, s => ⟨[], by simp [visB]⟩
 | k + 1, w, b, s => by
  have key : ∀ (l : List Nat) (s : BS), ∃ Y, (l.foldl (stepB L (visB L k) w b) s).opn = s.opn ++ Y := by
   intro l
   induction l with
   | nil => intro s; exact ⟨[], by simp⟩
   | cons e l ih =>
    intro s
    obtain ⟨Y, hY⟩ := stepB_pre L (visB_pre L k) w b s e
    obtain ⟨Z, hZ⟩ := ih (stepB L (visB L k) w b s e)
    exact ⟨Y ++ Z, by rw [List.foldl_cons, hZ, hY, List.append_assoc]⟩
  exact key (atV L w) (enterB w s)
theorem chunks_oneV (ts : List Tree) : chunks 1 ts.length ts = ts.map fun t => [t] := by
 have h := Go.Sp.chunks_flatten (k := 1) (rows := ts.map fun t => [t]) (fun r hr => by obtain ⟨t, _, rfl⟩ := List.mem_map.1 hr; rfl)
 have hf : ∀ l : List Tree, (l.map fun t => [t]).flatten = l := fun l => by
  induction l with
  | nil => rfl
  | cons x l ih => simp only [List.map_cons, List.flatten_cons, ih]; rfl
 rw [List.length_map, hf] at h
 exact h
theorem see_rest {H : List Blk} {j m cap : Nat} {A : List Nat} {X : List ACell} (hm : m ≤ A.length) (hc : A.length ≤ cap) (hj : H[j]? = some (.box (fC A ++ X))) : borrow0 H (.ref j 1 m (A.length - m) (cap - m)) = some (.slice (iRows (zI (A.drop m)))) := by
 have e1 : (((fC A ++ X).drop m).take ((A.length - m) * 1)) = fC (A.drop m) := by
  rw [Nat.mul_one, List.drop_append_of_le_length (by rw [fC_len]; exact hm), List.take_append_of_le_length (by rw [List.length_drop, fC_len]; exact Nat.le_refl _), List.take_of_length_le (by rw [List.length_drop, fC_len]; exact Nat.le_refl _)]
  simp [fC]
 have e2 : (fT (A.drop m)).length = A.length - m := by simp [fT]
 have h := chunks_oneV (fT (A.drop m))
 rw [e2] at h
 simp only [borrow0, hj, Blk.cells, Option.bind_some]
 rw [if_pos ⟨by omega, by rw [List.length_append, fC_len]; omega⟩, e1, mapM_fT, Option.map_some, h]
 simp [fT, iRows, zI, Function.comp_def]
theorem insN_perm (x : Nat) : ∀ l, (insN x l).Perm (x :: l)
 | [] => List.Perm.refl _
 | y :: l => by
  unfold insN
  split
  ·exact List.Perm.refl _
  ·exact ((insN_perm x l).cons y).trans (List.Perm.swap x y l)
theorem isortN_perm : ∀ l, (isortN l).Perm l
 | [] => List.Perm.refl _
 | x :: l => (insN_perm x _).trans ((isortN_perm l).cons x)
theorem insN_sorted {x : Nat} : ∀ {l : List Nat}, l.Pairwise (· ≤ ·) → (insN x l).Pairwise (· ≤ ·)
 | [], _ => List.pairwise_singleton _ _
 | y :: l, h => by
  have h' := List.pairwise_cons.1 h
  unfold insN
  split
  ·rename_i hxy
   refine List.pairwise_cons.2 ⟨fun z hz => ?_, h⟩
   rcases List.mem_cons.1 hz with rfl | hz
   ·exact hxy
   ·exact Nat.le_trans hxy (h'.1 z hz)
  ·rename_i hxy
   refine List.pairwise_cons.2 ⟨fun z hz => ?_, insN_sorted h'.2⟩
   rcases List.mem_cons.1 ((insN_perm x l).mem_iff.1 hz) with rfl | hz
   ·omega
   ·exact h'.1 z hz
theorem isortN_sorted : ∀ l, (isortN l).Pairwise (· ≤ ·)
 | [] => List.Pairwise.nil
 | _ :: l => insN_sorted (isortN_sorted l)
theorem sort_zI (l : List Nat) : sortI (zI l) = zI (isortN l) := by
 refine List.Perm.eq_of_pairwise (le := fun x y : Int => x ≤ y) (fun a b _ _ h1 h2 => Int.le_antisymm h1 h2) ?_ ?_ ((sortI_perm _).trans ((isortN_perm l).symm.map _))
 ·have := List.pairwise_mergeSort (le := fun x y : Int => decide (x ≤ y)) (fun a b c h1 h2 => by simp at *; omega) (fun a b => by simp; omega) (zI l)
  exact this.imp fun h => by simpa using h
 ·exact List.pairwise_map.2 ((isortN_sorted l).imp fun h => by omega)
end Go.Proofs.Ytgklecfiflhjmaa
