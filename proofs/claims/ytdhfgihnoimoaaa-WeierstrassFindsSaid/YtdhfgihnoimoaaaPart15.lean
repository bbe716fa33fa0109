/- A part of the proof. -/
import Derived.Test.YtdhfgihnoimoaaaLayerC
import Derived.Test.YtdhfgihnoimoaaaPart13
import Derived.Test.YtdhfgihnoimoaaaPart14
import Derived.Test.YtdhfgihnoimoaaaPart11
import Derived.Test.YtdhfgihnoimoaaaPart03
import Derived.Test.YtdhfgihnoimoaaaPart10
import Derived.Test.YtdhfgihnoimoaaaPart05
import Derived.Test.YtdhfgihnoimoaaaLayerD
set_option linter.all false
set_option maxHeartbeats 4000000
set_option maxRecDepth 100000
namespace Go.Proofs.Ytdhfgihnoimoaaa
open Go.Sp
theorem fC_in {m : Nat} {F : List Nat} : Go.Sp.cellsIn m (fC F) := cellsIn_map fun _ => True.intro
def tF (F : List Nat) : TVal := .agg (fT F)
theorem fT_of (F : List Nat) : (fT F).map ofTree = fC F := by simp [fT, fC, ofTree]
theorem fC_store (Z F : List Nat) (h : Z.length = F.length) : setMany (fC Z) 0 (fC F) = fC F := by
 apply List.ext_getElem?
 intro i
 rw [setMany_get _ _ _ _ (by simp [fC_len, h])]
 by_cases hi : i < F.length
 ·rw [if_pos ⟨Nat.zero_le _, by rw [fC_len]; omega⟩, Nat.sub_zero]
 ·rw [if_neg (by rw [fC_len]; omega), List.getElem?_eq_none (by rw [fC_len]; omega), List.getElem?_eq_none (by rw [fC_len]; omega)]
theorem fC_free : ∀ F : List Nat, anyFree (fC F) = true
 | [] => rfl
 | _ :: F => fC_free F
theorem fC_borrow (H : List Blk) : ∀ F : List Nat, (fC F).mapM (borrow H) = some (fT F)
 | [] => rfl
 | x :: F => by
  have ih := fC_borrow H F
  simp only [fC, fT, List.map_cons, List.mapM_cons] at ih ⊢
  rw [ih]; rfl
theorem cgrown_ok : ACall Try.prog 118 [] (tF (List.range 12)) := by
 refine ACall.of_body Try.func118 rfl (by kernel_rfl) ?_
 simp only [entry, Try.ntmps118]
 refine zU ?_
 refine zR trivial trivial trivial ?_
 refine AWp.loopS (α:=Nat) 11 (fun i=>[(0,.c (.ptr 0 0)),(1,.c (.ptr 1 0)),(3,.c (.int .i64 (i : Int)))]) (fun i=>[.box (fC (List.replicate 12 0)), .box (fC (initF i))]) (fun i=>i ≤ 12) (fun i=>12 - i) (0) (hk:=Weak.headL 2 11 [0, 1, 3] (zV @fC_in)) (h0:=?_) (round:=fun i hI=>?_)
 ·exact Nat.zero_le _
 ·by_cases hlt : i < 12
  ·have hset := initF_set hlt
   have hlen := initF_len hI
   generalize initF i = F at *
   refine zR (zc @fC_len (zc @hlen (zc @fC_set (zc @fC_set2 (zc @hset trivial))))) trivial trivial ?_
   refine ⟨i + 1,Weak.headN 2 11 [0, 1, 3] (zV @fC_in),?_,?_⟩
   ·exact hlt
   ·omega
  ·have ei : i = 12 := by omega
   subst ei
   rw [initF_12]
   have hl : (List.range 12).length = 12 := List.length_range
   generalize List.range 12 = F at *
   have ht : (fC F).take 12 = fC F := List.take_of_length_le (by rw [fC_len, hl]; exact Nat.le_refl _)
   have hs := fC_store (List.replicate 12 0) F (by simp [hl])
   have hlr : (List.replicate 12 0 : List Nat).length = 12 := by simp
   generalize List.replicate 12 0 = Z at *
   refine zR (zc @fC_len (zc @hl (zc @hlr (zc @ht (zc @hs (zc @fC_free trivial)))))) trivial trivial ?_
   have hm := fC_borrow [Blk.box (fC F), Blk.box (fC F)] F
   simp [Rets, aret, Blk.cells, ty, Try.results118, ares, toT1, toT, borrow, borrow0, capCell, toTree0, hm, hl, ht, fC_len, tF]
theorem croot_ok (F : List Nat) (h : FOk F) (v : Nat) (hv : v < 12) : ACall Try.prog 120 [.t (.rptr (fT F)), tint v] (tint (rootF F 12 v)) := by
 have hF := h.len
 refine ACall.of_body Try.func120 rfl (by kernel_rfl) ?_
 simp only [entry, Try.ntmps120, tint]
 refine zU ?_
 refine zR trivial trivial trivial ?_
 refine AWp.loopS (α:=Nat) 18 (fun u=>[(0,.c (.rptr (fT F))),(1,.c (.int .i64 (u : Int)))]) (fun u=>[]) (fun u=>u < 12 ∧ rootF F 12 v = rootF F 12 u) (fun u=>u) (v) (hk:=Weak.headL 0 18 [0, 1] (zV @fC_in)) (h0:=?_) (round:=fun u hI=>?_)
 ·exact ⟨hv, rfl⟩
 ·obtain ⟨hu, hx⟩ := hI
  have hul : u < F.length := by omega
  have e1 := fT_drop hul
  have e2 := rootF_step h hul
  have e3 := h.le u hul
  repeat' (first|((first|(refine zT ?_;intro K' hK')|(refine zG ?_ ?_<;>(try refine zH ?_)<;>intro hguard<;>(try exact zX)<;>try intro K' hK'))<;>((try simp +contextual only [go_sem, e1, Int.toNat_natCast, Nat.mul_one]);(repeat' first|(with_reducible refine hK' _ _ ?_;clear hK' K')|exact zY|with_reducible refine And.intro ?_ ?_|(with_reducible intro hpath;try exact zP)|(refine hK' _ _ ?_;clear hK' K')|fail);try refine zS ?_))|(refine zE ?_;refine hK _ _ ?_;clear hK K)|(refine zN ?_;try refine zS ?_)|refine zA ?_|(refine zB ?_;intro K hK)|(refine zC ?_ ?_<;>(try refine zH ?_)<;>intro hcond<;>try exact zX)|fail)
  ·rw [if_neg (by omega)] at e2
   refine ⟨F[u],Weak.headN 0 18 [0, 1] (zV @fC_in),?_,?_⟩
   ·exact ⟨by omega, by rw [hx, e2]⟩
   ·omega
  ·rw [if_pos (by omega)] at e2
   have e : rootF F 12 v = u := by rw [hx, e2]
   simp [Rets, aret, Blk.cells, ty, Try.results120, ares, toT1, toT, borrow, borrow0, capCell, toTree0, tint, e]
theorem croot_call (F : List Nat) (h : FOk F) (v : Nat) (hv : v < 12) {H : List Blk} {id : Nat} (hb : H[id]? = some (.box (fC F))) :
  ACallH Try.prog 120 H [.c (.ptr id 0), .c (.int .i64 (v : Int))] H (.c (.int .i64 (rootF F 12 v : Nat))) :=
 ACall.hb (croot_ok F h v hv) (by simp [toT, borrow, borrow0, hb, Blk.cells, mapM_fT, toTree0, tint]) rfl
theorem cjoin_ok (F : List Nat) (h : FOk F) (a b : Nat) (ha : a < 12) (hb : b < 12) {H : List Blk} {id : Nat} (hid : H[id]? = some (.box (fC F))) :
  ACallH Try.prog 119 H [.c (.ptr id 0), .c (.int .i64 (a : Int)), .c (.int .i64 (b : Int))] (H.set id (.box (fC (F.set (max (rootF F 12 a) (rootF F 12 b)) (min (rootF F 12 a) (rootF F 12 b)))))) (.tup []) := by
 have rx := croot_call F h a ha hid
 have ry := croot_call F h b hb hid
 have la := rootF_le h (n := 12) ha
 have lb := rootF_le h (n := 12) hb
 generalize rootF F 12 a = x at *
 generalize rootF F 12 b = y at *
 have hmax : max (x : Int) (y : Int) = ((max x y : Nat) : Int) := by omega
 have hmin : min (x : Int) (y : Int) = ((min x y : Nat) : Int) := by omega
 refine ACallH.of_body Try.func119 rfl (by kernel_rfl) ?_
 simp only [entry, Try.ntmps119, List.length_cons, List.length_nil, Nat.reduceAdd, Nat.reduceSub, List.replicate_succ, List.replicate_zero, List.cons_append, List.nil_append]
 refine zJ trivial (zc @fC_len (zc @fC_set (zc @fC_set2 (zc @hmax (zc @hmin (zc @h.len (zc @hid trivial))))))) trivial (zc rx (zc ry trivial)) trivial ?_
 simp [RetsH, aretH, ares, noTup, Try.results119]
instance (n : Int) (p : Int × Int) : Decidable (okP n p) := by unfold okP; infer_instance
def pairsE (es : List E) : List (Int × Int) := es.map fun e => (e.a, e.b)
theorem pairs_range {g : G} (hc : checkG g = 0) {p : Int × Int} (h : p ∈ pairsE g.es) : (0 ≤ p.1 ∧ p.1 < g.n) ∧ (0 ≤ p.2 ∧ p.2 < g.n) := by
 obtain ⟨e, he, rfl⟩ := List.mem_map.1 h
 have := (checkG_zero.1 hc).2.1 e he
 unfold okE at this
 simp only; omega
theorem pairs_in12 {g : G} (hc : checkG g = 0) : In12 (pairsE g.es) := fun p hp => by
 have := pairs_range hc hp
 have := (checkG_zero.1 hc).1
 omega
def zero12 : List Nat := List.replicate 12 0
theorem zero12_len : zero12.length = 12 := by simp [zero12]
theorem cjoined_ok (g : G) (hc : checkG g = 0) (hl : g.es.length < 2 ^ 30) : ACall Try.prog 101 [tG g] (tF (genS (pairsE g.es)).1) := by
 have h12 := pairs_in12 hc
 obtain ⟨n, es⟩ := g
 simp only at h12 hl ⊢
 have hg := cgrown_ok
 have hr12 : (List.range 12).length = 12 := List.length_range
 have h0 : (genS ((pairsE es).take 0)).1 = List.range 12 := rfl
 refine ACall.of_body Try.func101 rfl (by kernel_rfl) ?_
 simp only [entry, Try.ntmps101, tG]
 refine zU ?_
 generalize hR : List.range 12 = R at *
 have hof : (fT R).map ofTree = fC R := fT_of R
 have hst := fC_store zero12 R (by rw [hr12]; rfl)
 have hlz : zero12.length = 12 := zero12_len
 have hz : fC zero12 = [.int .i64 0, .int .i64 0, .int .i64 0, .int .i64 0, .int .i64 0, .int .i64 0, .int .i64 0, .int .i64 0, .int .i64 0, .int .i64 0, .int .i64 0, .int .i64 0] := rfl
 rw [hz] at hst
 unfold tF at hg
 refine zR (zc @eRows_len (zc @fC_len (zc @fC_free (zc @hof (zc @hst (zc @hr12 trivial)))))) (zc hg trivial) trivial ?_
 rw [← h0]
 refine AWp.loopS (α:=Nat) 21 (fun i=>[(2,.c (.ptr 1 0)),(3,.c (.ptr 2 0)),(8,.c (.slice (eRows es) .none)),(9,.c (.int .i64 (es.length : Int))),(10,.c (.int .i64 (i : Int)))]) (fun i=>[.box [.int .i64 n, .slice (eRows es) .none], .box (fC zero12), .box (fC (genS ((pairsE es).take i)).1)]) (fun i=>i ≤ es.length) (fun i=>es.length - i) (0) (hk:=Weak.headL 3 21 [2, 3, 8, 9, 10] (zV @fC_in)) (h0:=?_) (round:=fun i hI=>?_)
 ·exact Nat.zero_le _
 ·have hi : i ≤ es.length := hI
  clear hI
  have hok := genS_ok (l := (pairsE es).take i) fun q hq => h12 q (List.mem_of_mem_take hq)
  by_cases hlt : i < es.length
  ·have hltI : (i : Int) < es.length := by omega
   have e0 := List.getElem?_eq_getElem hlt
   have e1 := eRows_get e0
   have hp : (pairsE es)[i]? = some (es[i].a, es[i].b) := by simp [pairsE, e0]
   have hsn := take_snoc hp
   have hnx := genS_snoc ((pairsE es).take i) (es[i].a, es[i].b)
   rw [← hsn] at hnx
   have hrng := h12 _ (List.mem_of_getElem? hp)
   generalize es[i] = x at *
   obtain ⟨xa, xb, xm⟩ := x
   simp only at hrng hnx e1
   obtain ⟨a, rfl⟩ := Int.eq_ofNat_of_zero_le hrng.1.1
   obtain ⟨b, rfl⟩ := Int.eq_ofNat_of_zero_le hrng.2.1
   have ha : a < 12 := by omega
   have hb : b < 12 := by omega
   have hF := hok.1
   simp only [genStep, Int.toNat_natCast] at hnx
   have hn1 := congrArg Prod.fst hnx
   simp only at hn1
   generalize (genS ((pairsE es).take i)).1 = F at *
   have hJ := cjoin_ok F hF a b ha hb (H := [.box [.int .i64 n, .slice (eRows es) .none], .box (fC zero12), .box (fC F), .box [.int .i64 (a : Int), .int .i64 (b : Int), .int .i64 xm]]) (id := 2) rfl
   rw [← hn1] at hJ
   simp only [List.set_cons_succ, List.set_cons_zero] at hJ
   refine zJ trivial (zc @hltI (zc @e1 (zc @eRows_len trivial))) trivial (zc hJ trivial) trivial ?_
   refine ⟨i + 1,Weak.headN 3 21 [2, 3, 8, 9, 10] (zV @fC_in),?_,?_⟩
   ·exact hlt
   ·omega
  ·have ei : i = es.length := by omega
   subst ei
   have hnl : ¬ ((es.length : Int) < es.length) := by omega
   have htk : (pairsE es).take es.length = pairsE es := List.take_of_length_le (by simp [pairsE])
   rw [htk]
   rw [htk] at hok
   have hlF := hok.1.len
   generalize (genS (pairsE es)).1 = F at *
   have ht : (fC F).take 12 = fC F := List.take_of_length_le (by rw [fC_len, hlF]; exact Nat.le_refl _)
   have hs := fC_store zero12 F (by rw [hlF]; rfl)
   generalize zero12 = Z at *
   refine zR (zc @hnl (zc @fC_len (zc @hlF (zc @hlz (zc @ht (zc @hs (zc @fC_free trivial))))))) trivial trivial ?_
   have hm := fC_borrow [Blk.box [.int .i64 n, .slice (eRows es) .none], Blk.box (fC F), Blk.box (fC F)] F
   simp [Rets, aret, Blk.cells, ty, Try.results101, ares, toT1, toT, borrow, borrow0, capCell, toTree0, hm, hlF, ht, fC_len, tF]
def zI (T : List Nat) : List Int := T.map fun x : Nat => (x : Int)
theorem zI_len (T : List Nat) : (zI T).length = T.length := by simp [zI]
def LI (L : List (Nat × Nat)) : List (Int × Int) := L.map fun p => ((p.1 : Int), (p.2 : Int))
structure VX (s : BS) (j cap : Nat) (X : List Blk) : Prop where
 vec : X[j]? = some (.box (fC s.opn ++ List.replicate (cap - s.opn.length) .any))
 cap : s.opn.length ≤ cap
 inn : ∀ b, b ∈ X → ∀ m, blkIn m b
end Go.Proofs.Ytdhfgihnoimoaaa
