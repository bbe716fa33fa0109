/- A part of the proof. -/
import Derived.Test.YtfkegnhpihoncaaGreatPart26
import Derived.Test.YtfkegnhpihoncaaGreatLayerC
set_option linter.all false
set_option maxHeartbeats 4000000
set_option maxRecDepth 100000
namespace Go.Proofs.YtfkegnhpihoncaaGreat
open Go.Sp
def pairsE (es : List E) : List (Int × Int) := es.map fun e => (e.a, e.b)
theorem pairs_range {g : G} (hc : checkG g = 0) {p : Int × Int} (h : p ∈ pairsE g.es) : (0 ≤ p.1 ∧ p.1 < g.n) ∧ (0 ≤ p.2 ∧ p.2 < g.n) := by
 obtain ⟨e, he, rfl⟩ := List.mem_map.1 h
 have := (checkG_zero.1 hc).2.1 e he
 unfold okE at this
 simp only; omega
theorem pairs_in12 {g : G} (hc : checkG g = 0) : In12 (pairsE g.es) := fun p hp => by
 have := pairs_range hc hp
 have := (checkG_zero.1 hc).1
 omega
def zero12 : List Nat := List.replicate 12 0
theorem zero12_len : zero12.length = 12 := by simp [zero12]
theorem cjoined_ok (g : G) (hc : checkG g = 0) (hl : g.es.length < 2 ^ 30) : ACall Tryz.prog 173 [tG g] (tF (genS (pairsE g.es)).1) := by
 have h12 := pairs_in12 hc
 obtain ⟨n, es⟩ := g
 simp only at h12 hl ⊢
 have hg := cgrown_ok
 have hr12 : (List.range 12).length = 12 := List.length_range
 have h0 : (genS ((pairsE es).take 0)).1 = List.range 12 := rfl
 refine ACall.of_body Tryz.func173 rfl (by kernel_rfl) ?_
 simp only [entry, Tryz.ntmps173, tG]
 refine zU ?_
 generalize hR : List.range 12 = R at *
 have hof : (fT R).map ofTree = fC R := fT_of R
 have hst := fC_store zero12 R (by rw [hr12]; rfl)
 have hlz : zero12.length = 12 := zero12_len
 have hz : fC zero12 = [.int .i64 0, .int .i64 0, .int .i64 0, .int .i64 0, .int .i64 0, .int .i64 0, .int .i64 0, .int .i64 0, .int .i64 0, .int .i64 0, .int .i64 0, .int .i64 0] := rfl
 rw [hz] at hst
 unfold tF at hg
 refine zR (zc @eRows_len (zc @fC_len (zc @fC_free (zc @hof (zc @hst (zc @hr12 trivial)))))) (zc hg trivial) trivial ?_
 rw [← h0]
 refine AWp.loopS (α:=Nat) 21 (fun i=>[(2,.c (.ptr 1 0)),(3,.c (.ptr 2 0)),(8,.c (.slice (eRows es) .none)),(9,.c (.int .i64 (es.length : Int))),(10,.c (.int .i64 (i : Int)))]) (fun i=>[.box [.int .i64 n, .slice (eRows es) .none], .box (fC zero12), .box (fC (genS ((pairsE es).take i)).1)]) (fun i=>i ≤ es.length) (fun i=>es.length - i) (0) (hk:=Weak.headL 3 21 [2, 3, 8, 9, 10] (zV @fC_in)) (h0:=?_) (round:=fun i hI=>?_)
 ·exact Nat.zero_le _
 ·have hi : i ≤ es.length := hI
  clear hI
  have hok := genS_ok (l := (pairsE es).take i) fun q hq => h12 q (List.mem_of_mem_take hq)
  by_cases hlt : i < es.length
  ·have hltI : (i : Int) < es.length := by omega
   have e0 := List.getElem?_eq_getElem hlt
   have e1 := eRows_get e0
   have hp : (pairsE es)[i]? = some (es[i].a, es[i].b) := by simp [pairsE, e0]
   have hsn := take_snoc hp
   have hnx := genS_snoc ((pairsE es).take i) (es[i].a, es[i].b)
   rw [← hsn] at hnx
   have hrng := h12 _ (List.mem_of_getElem? hp)
   generalize es[i] = x at *
   obtain ⟨xa, xb, xm⟩ := x
   simp only at hrng hnx e1
   obtain ⟨a, rfl⟩ := Int.eq_ofNat_of_zero_le hrng.1.1
   obtain ⟨b, rfl⟩ := Int.eq_ofNat_of_zero_le hrng.2.1
   have ha : a < 12 := by omega
   have hb : b < 12 := by omega
   have hF := hok.1
   simp only [genStep, Int.toNat_natCast] at hnx
   have hn1 := congrArg Prod.fst hnx
   simp only at hn1
   generalize (genS ((pairsE es).take i)).1 = F at *
   have hJ := cjoin_ok F hF a b ha hb (H := [.box [.int .i64 n, .slice (eRows es) .none], .box (fC zero12), .box (fC F), .box [.int .i64 (a : Int), .int .i64 (b : Int), .int .i64 xm]]) (id := 2) rfl
   rw [← hn1] at hJ
   simp only [List.set_cons_succ, List.set_cons_zero] at hJ
   repeat' (first|((first|(refine zT ?_;intro K' hK')|(refine zG ?_ ?_<;>(try refine zH ?_)<;>intro hguard<;>(try exact zX)<;>try intro K' hK'))<;>((try simp +contextual only [go_sem, hltI, e1, eRows_len, Int.toNat_natCast]);(repeat' first|(with_reducible refine hK' _ _ ?_;clear hK' K')|((with_reducible first|refine ⟨_,_,hJ,?_⟩|refine ⟨_,hJ,?_⟩);try simp +contextual only [go_sem, hltI, e1, eRows_len, Int.toNat_natCast])|exact zY|with_reducible refine And.intro ?_ ?_|(with_reducible intro hpath;try exact zP)|(refine hK' _ _ ?_;clear hK' K')|fail);try refine zS ?_))|(refine zE ?_;refine hK _ _ ?_;clear hK K)|(refine zN ?_;try refine zS ?_)|refine zA ?_|(refine zB ?_;intro K hK)|(refine zC ?_ ?_<;>(try refine zH ?_)<;>intro hcond<;>try exact zX)|fail)
   refine ⟨i + 1,Weak.headN 3 21 [2, 3, 8, 9, 10] (zV @fC_in),?_,?_⟩
   ·exact hlt
   ·omega
  ·have ei : i = es.length := by omega
   subst ei
   have hnl : ¬ ((es.length : Int) < es.length) := by omega
   have htk : (pairsE es).take es.length = pairsE es := List.take_of_length_le (by simp [pairsE])
   rw [htk]
   rw [htk] at hok
   have hlF := hok.1.len
   generalize (genS (pairsE es)).1 = F at *
   have ht : (fC F).take 12 = fC F := List.take_of_length_le (by rw [fC_len, hlF]; exact Nat.le_refl _)
   have hs := fC_store zero12 F (by rw [hlF]; rfl)
   generalize zero12 = Z at *
   refine zR (zc @hnl (zc @fC_len (zc @hlF (zc @hlz (zc @ht (zc @hs (zc @fC_free trivial))))))) trivial trivial ?_
   have hm := fC_borrow [Blk.box [.int .i64 n, .slice (eRows es) .none], Blk.box (fC F), Blk.box (fC F)] F
   simp [Rets, aret, Blk.cells, ty, Tryz.results173, ares, toT1, toT, borrow, borrow0, capCell, toTree0, hm, hlF, ht, fC_len, tF]
end Go.Proofs.YtfkegnhpihoncaaGreat
