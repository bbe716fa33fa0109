/- A part of the proof. -/
import Derived.Test.YtdhfgihnoimoaaaPart35
import Derived.Test.YtdhfgihnoimoaaaPart34
import Derived.Test.YtdhfgihnoimoaaaPart30
import Derived.Test.YtdhfgihnoimoaaaLayerE
import Derived.Test.YtdhfgihnoimoaaaLayerC
set_option linter.all false
set_option maxHeartbeats 4000000
set_option maxRecDepth 100000
namespace Go.Proofs.Ytdhfgihnoimoaaa
open Go.Sp
theorem wgiven_ok (g : G) (hl : g.es.length ≤ 40) : ACall Try.prog 38 [tG g] (tint (joinedE g)) := by
 have hC := Connected_ok g (by omega)
 by_cases hc : checkG g = 0
 ·rw [hc] at hC
  cases hb : connB g with
  | false =>
   have e : joinedE g = 13 := by unfold joinedE; rw [if_neg (fun q => q hc), if_neg (by rw [hb]; simp)]
   rw [e]
   rw [hb] at hC
   obtain ⟨n, es⟩ := g
   have hC2 : ACall Try.prog 60 [tG ⟨n, es⟩] (.tup [tbool false, tint 0]) := hC
   refine ACall.of_body Try.func38 rfl (by kernel_rfl) ?_
   simp only [entry, Try.ntmps38, tG]
   refine zU ?_
   refine zR trivial (zc hC2 trivial) trivial ?_
   simp [Rets, aret, Blk.cells, ty, Try.results38, ares, toT1, toT, borrow, borrow0, capCell, toTree0, tint]
  | true =>
   have e : joinedE g = 0 := by unfold joinedE; rw [if_neg (fun q => q hc), if_pos hb]
   rw [e]
   rw [hb] at hC
   obtain ⟨n, es⟩ := g
   have hC2 : ACall Try.prog 60 [tG ⟨n, es⟩] (.tup [tbool true, tint 0]) := hC
   refine ACall.of_body Try.func38 rfl (by kernel_rfl) ?_
   simp only [entry, Try.ntmps38, tG]
   refine zU ?_
   refine zR trivial (zc hC2 trivial) trivial ?_
   simp [Rets, aret, Blk.cells, ty, Try.results38, ares, toT1, toT, borrow, borrow0, capCell, toTree0, tint]
 ·have e : joinedE g = checkG g := if_pos hc
  have hC2 : ACall Try.prog 60 [tG g] (.tup [tbool false, tint (checkG g)]) := by
   rw [decide_eq_false hc] at hC; exact hC
  rw [e]
  clear hC
  generalize checkG g = er at *
  obtain ⟨n, es⟩ := g
  refine ACall.of_body Try.func38 rfl (by kernel_rfl) ?_
  simp only [entry, Try.ntmps38, tG]
  refine zU ?_
  refine zR (zc @hc trivial) (zc hC2 trivial) trivial ?_
  simp [Rets, aret, Blk.cells, ty, Try.results38, ares, toT1, toT, borrow, borrow0, capCell, toTree0, tint]
theorem wat_ok (g : G) (v : Int) (hl : g.es.length ≤ 40) : ACall Try.prog 30 [tG g, tint v] (tint (vtxE g v)) := by
 have hJ := wgiven_ok g hl
 unfold vtxE
 by_cases hj : joinedE g = 0
 ·rw [if_neg (by omega)]
  rw [hj] at hJ
  obtain ⟨n, es⟩ := g
  show ACall _ _ _ (tint (if 0 ≤ v ∧ v < n then 0 else 2))
  by_cases h0 : v < 0
  ·rw [if_neg (by omega)]
   refine ACall.of_body Try.func30 rfl (by kernel_rfl) ?_
   simp only [entry, Try.ntmps30, tG, tint]
   refine zU ?_
   refine zR (zc @h0 trivial) (zc hJ trivial) trivial ?_
   simp [Rets, aret, Blk.cells, ty, Try.results30, ares, toT1, toT, borrow, borrow0, capCell, toTree0, tint]
  ·by_cases h1 : v ≥ n
   ·rw [if_neg (by omega)]
    refine ACall.of_body Try.func30 rfl (by kernel_rfl) ?_
    simp only [entry, Try.ntmps30, tG, tint]
    refine zU ?_
    refine zR (zc @h0 (zc @h1 trivial)) (zc hJ trivial) trivial ?_
    simp [Rets, aret, Blk.cells, ty, Try.results30, ares, toT1, toT, borrow, borrow0, capCell, toTree0, tint]
   ·rw [if_pos (by omega)]
    refine ACall.of_body Try.func30 rfl (by kernel_rfl) ?_
    simp only [entry, Try.ntmps30, tG, tint]
    refine zU ?_
    refine zR (zc @h0 (zc @h1 trivial)) (zc hJ trivial) trivial ?_
    simp [Rets, aret, Blk.cells, ty, Try.results30, ares, toT1, toT, borrow, borrow0, capCell, toTree0, tint]
 ·rw [if_pos hj]
  generalize joinedE g = er at *
  obtain ⟨n, es⟩ := g
  refine ACall.of_body Try.func30 rfl (by kernel_rfl) ?_
  simp only [entry, Try.ntmps30, tG, tint]
  refine zU ?_
  refine zR (zc @hj trivial) (zc hJ trivial) trivial ?_
  simp [Rets, aret, Blk.cells, ty, Try.results30, ares, toT1, toT, borrow, borrow0, capCell, toTree0, tint]
noncomputable def itemsA (n : Nat) (es : List E) (v N : Nat) : List (List TVal) := (List.range N).map fun k => [tint (rkT n es v k), tint 0]
theorem itemsA_len (n : Nat) (es : List E) (v N : Nat) : (itemsA n es v N).length = N := by simp [itemsA]
theorem itemsA_get {n : Nat} {es : List E} {v N k : Nat} (h : k < N) : (itemsA n es v N)[k]? = some [tint (rkT n es v k), tint 0] := by
 unfold itemsA; rw [List.getElem?_map, List.getElem?_range h]; rfl
theorem itemsA_inv {n : Nat} {es : List E} {v N k : Nat} {ts : List TVal} (h : (itemsA n es v N)[k]? = some ts) : k < N ∧ ts = [tint (rkT n es v k), tint 0] := by
 have hk : k < N := by have := (List.getElem?_eq_some_iff.1 h).1; rw [itemsA_len] at this; exact this
 rw [itemsA_get hk] at h
 cases h
 exact ⟨hk, rfl⟩
theorem along1_ok {n : Nat} {es : List E} (h : Sm5 n es) {v : Nat} (hv : v < n) {N : Nat} (hN : N ≤ 30) :
  AIterB Try.prog 75 [.rptr [.int .i64 (n : Int), .slice (eRows es)], .rptr [.int .i64 (v : Int)]] (itemsA n es v N) := by
 have h5 := h.n5
 have h1 := h.g.h1
 have hS : ∀ k : Nat, k ≤ 30 → ACall Try.prog 46 [tint n, tint v, tint k] (.tup [tints (timL n v k), tint 0]) := fun k hk => Some_ok n v k h1 (by omega) hv (by omega)
 have hR : ∀ k : Nat, k ≤ 30 → ACall Try.prog 44 [tG ⟨(n : Int), es⟩, tints (timL n v k)] (.tup [tint (rkT n es v k), tint 0]) := fun k hk => Rank_good h.rk _ (timL_len _ _ _) (timL_bnd hv (by omega))
 refine AIterB.of_body Try.func75 rfl (by kernel_rfl) rfl (fun l J Jx hJ hJx hY hNo => ?_)
 simp only [entry, Try.ntmps75, ofT, ofT1, ofTree, List.map_cons, List.map_nil, List.length_cons, List.length_nil, Nat.reduceAdd, Nat.reduceSub, List.replicate_succ, List.replicate_zero, List.cons_append, List.nil_append]
 rw [itemsA_len] at hNo ⊢
 refine zR trivial trivial trivial ?_
 refine AWp.loopS (α:=Nat) 35 (fun k=>[(0,.c (.yld l)),(1,.c (.rptr [.int .i64 (n : Int), .slice (eRows es)])),(2,.c (.rptr [.int .i64 (v : Int)])),(4,.c (.int .i64 (k : Int)))]) (fun k=>[.ghost (J k)]) (fun k=>k ≤ N) (fun k=>N - k) (0) (hk:=Weak.headL 1 35 [0, 1, 2, 4] (zV2 @iC_in @bC_inS)) (h0:=?_) (round:=fun k hI=>?_)
 ·exact Nat.zero_le _
 ·have hk : k ≤ N := hI
  clear hI
  by_cases hkl : k < N
  ·have hg := itemsA_get (n := n) (es := es) (v := v) hkl
   have hSk := hS k (by omega)
   have hRk := hR k (by omega)
   clear hS hR
   generalize timL n v (k : Int) = t at *
   generalize rkT n es v k = r at *
   repeat' (first|((with_reducible refine AWp.seq (AWp.of_reg (id:=6) (AReg.pre 3 (fun K hK=>?_))));simp only [List.take_succ_cons,List.take_zero])|((with_reducible refine AWp.of_reg (id:=6) (AReg.pre 3 (fun K hK=>?_)));simp only [List.take_succ_cons,List.take_zero])|((first|(refine zT ?_;intro K' hK')|(refine zG ?_ ?_<;>(try refine zH ?_)<;>intro hguard<;>(try exact zX)<;>try intro K' hK'))<;>((try simp +contextual only [go_sem]);(repeat' first|(with_reducible refine hK' _ _ ?_;clear hK' K')|((with_reducible first|refine zK hSk ?_|refine zK hRk ?_);try simp +contextual only [go_sem])|exact zY|with_reducible refine And.intro ?_ ?_|(with_reducible intro hpath;try exact zP)|(refine hK' _ _ ?_;clear hK' K')|fail);try refine zS ?_))|(refine zE ?_;refine hK _ _ ?_;clear hK K)|(refine zN ?_;try refine zS ?_)|refine zA ?_|(refine zB ?_;intro K hK)|(refine zC ?_ ?_<;>(try refine zH ?_)<;>intro hcond<;>try exact zX)|fail)
   simp only [List.drop_succ_cons, List.drop_zero]
   refine AReg.yield rfl rfl rfl (by rfl) (by with_unfolding_all rfl) (by simp [okBlk]) (hY _ _ hg) (hJ _) hJx ?_ ?_ <;> (try refine zS ?_) <;> refine AReg.rest (fun K hK => ?_)
   ·
    repeat' (first|((first|(refine zT ?_;intro K' hK')|(refine zG ?_ ?_<;>(try refine zH ?_)<;>intro hguard<;>(try exact zX)<;>try intro K' hK'))<;>((try simp +contextual only [go_sem]);(repeat' first|(with_reducible refine hK' _ _ ?_;clear hK' K')|exact zY|with_reducible refine And.intro ?_ ?_|(with_reducible intro hpath;try exact zP)|(refine hK' _ _ ?_;clear hK' K')|fail);try refine zS ?_))|(refine zE ?_;refine hK _ _ ?_;clear hK K)|(refine zN ?_;try refine zS ?_)|refine zA ?_|(refine zB ?_;intro K hK)|(refine zC ?_ ?_<;>(try refine zH ?_)<;>intro hcond<;>try exact zX)|fail)
    refine ⟨k + 1,Weak.headN 1 35 [0, 1, 2, 4] (zV2 @iC_in @bC_inS),?_,?_⟩
    ·exact hkl
    ·omega
   ·
    repeat' (first|((first|(refine zT ?_;intro K' hK')|(refine zG ?_ ?_<;>(try refine zH ?_)<;>intro hguard<;>(try exact zX)<;>try intro K' hK'))<;>((try simp +contextual only [go_sem]);(repeat' first|(with_reducible refine hK' _ _ ?_;clear hK' K')|exact zY|with_reducible refine And.intro ?_ ?_|(with_reducible intro hpath;try exact zP)|(refine hK' _ _ ?_;clear hK' K')|fail);try refine zS ?_))|(refine zE ?_;refine hK _ _ ?_;clear hK K)|(refine zN ?_;try refine zS ?_)|refine zA ?_|(refine zB ?_;intro K hK)|(refine zC ?_ ?_<;>(try refine zH ?_)<;>intro hcond<;>try exact zX)|fail)
    exact ⟨True.intro, _, .inr rfl⟩
  ·have ek : k = N := by omega
   subst ek
   exact AWp.noGhost hNo
theorem along_ok (g : G) (v : Int) : ACall Try.prog 54 [tG g, tint v] (.t (.fn 75 [.rptr [.int .i64 g.n, .slice (eRows g.es)], .rptr [.int .i64 v]])) := by
 obtain ⟨n, es⟩ := g
 refine ACall.of_body Try.func54 rfl (by kernel_rfl) ?_
 simp only [entry, Try.ntmps54, tG, tint]
 refine zU ?_
 refine zR trivial trivial trivial ?_
 simp [Rets, aret, Blk.cells, ty, Try.results54, ares, toT1, toT, borrow, borrow0, capCell, toTree0]
theorem sumD_sumL {l : List Int} {n : Nat} (h : l.length = n) : sumD l n = sumL l := by
 unfold sumD; rw [← h, sumR_sumL]
theorem RWeight_ok {n : Nat} {es : List E} (hl : es.length ≤ 40) (hs : joinedE ⟨(n : Int), es⟩ = 0 → Sm5 n es) (v : Int) : ACall Try.prog 18 [tG ⟨(n : Int), es⟩, tint v] (.tup [tint (weightR n es v).1, tint (weightR n es v).2]) := by
 have hGp := RGaps_ok hl hs v
 by_cases he : (gapsR n es v).2 = 0
 ·have e : weightR n es v = (wgt n es v.toNat, 0) := by unfold weightR; rw [if_neg (by omega)]
  rw [e]
  have hv : vtxE ⟨(n : Int), es⟩ v = 0 := by
   refine Classical.byContradiction fun h => ?_
   unfold gapsR at he
   rw [if_pos h] at he
   exact h he
  obtain ⟨hj, k, rfl, hk⟩ := vtx_zero hv
  obtain ⟨hc, _⟩ := joined_zero hj
  have hGn := Gen39_ok n es hl hc
  have h6 : ¬ 6 < sizeE es - n + 1 := fun h => by
   unfold gapsR at he
   rw [if_neg (by omega), if_pos h] at he
   cases he
  have hg : gapsR n es k = (gapsL n es k, 0) := by unfold gapsR; rw [if_neg (by omega), if_neg h6]; rfl
  rw [hg] at hGp
  have hpos := gen_pos (hs hj).g
  obtain ⟨b1, b2⟩ := gapsL_bnd (n := n) (es := es) (v := k) (by omega)
  have hT := Total_ok (gapsL n es k) rfl (by omega) (bndL_mono b2 (by decide))
  rw [sumD_sumL rfl] at hT
  obtain ⟨t1, t2, t3, t4, t5, t6⟩ := halfT_ok (G := sizeE es - n + 1) (by omega)
  have hw : wgt n es (k : Int).toNat = sumL (gapsL n es k) - halfT (sizeE es - n + 1) := rfl
  rw [hw]
  have hsb : -200 ≤ sumL (gapsL n es k) ∧ sumL (gapsL n es k) ≤ 200 := by
   have := sumR_bnd b2 (gapsL n es k).length
   rw [sumR_sumL] at this
   omega
  have ht : ((sizeE es - n + 1) * (sizeE es - n + 1 + 1)).tdiv 2 = halfT (sizeE es - n + 1) := rfl
  generalize gapsL n es k = l at *
  generalize halfT (sizeE es - n + 1) = t at *
  generalize sizeE es - n + 1 = gg at *
  have h2 : ¬ (2 : Int) = 0 := by decide
  generalize sumL l = sl at *
  refine ACall.of_body Try.func18 rfl (by kernel_rfl) ?_
  simp only [entry, Try.ntmps18, tG, tint]
  refine zU ?_
  refine zR (zc @ht trivial) (zc hGp (zc hGn (zc hT trivial))) trivial ?_
  simp [Rets, aret, Blk.cells, ty, Try.results18, ares, toT1, toT, borrow, borrow0, capCell, toTree0, tint, tints]
 ·have e : weightR n es v = (0, (gapsR n es v).2) := by unfold weightR; rw [if_pos he]
  rw [e]
  generalize gapsR n es v = p at *
  obtain ⟨l, er⟩ := p
  simp only at he hGp ⊢
  refine ACall.of_body Try.func18 rfl (by kernel_rfl) ?_
  simp only [entry, Try.ntmps18, tG, tint]
  refine zU ?_
  refine zR (zc @he trivial) (zc hGp trivial) trivial ?_
  simp [Rets, aret, Blk.cells, ty, Try.results18, ares, toT1, toT, borrow, borrow0, capCell, toTree0, tint, tints]
def filK (p : Nat → Bool) : Nat → List Int
 | 0 => []
 | k + 1 => if p k = true then filK p k ++ [(k : Int)] else filK p k
theorem filK_len (p : Nat → Bool) : ∀ k, (filK p k).length ≤ k
 | 0 => Nat.le_refl _
 | k + 1 => by have := filK_len p k; unfold filK; split <;> simp <;> omega
theorem filK_pos {p : Nat → Bool} {k : Nat} (h : p k = true) : filK p (k + 1) = filK p k ++ [(k : Int)] := by
 conv => lhs; unfold filK
 rw [if_pos h]
theorem filK_neg {p : Nat → Bool} {k : Nat} (h : p k = false) : filK p (k + 1) = filK p k := by
 conv => lhs; unfold filK
 rw [if_neg (by rw [h]; simp)]
noncomputable def wvP (n : Nat) (es : List E) (v : Nat) : Bool := decide (wgt n es v > 0)
noncomputable def vertsR (n : Nat) (es : List E) : List Int × Int := if joinedE ⟨(n : Int), es⟩ ≠ 0 then ([], joinedE ⟨(n : Int), es⟩) else if 6 < sizeE es - n + 1 then ([], 12) else (filK (wvP n es) n, 0)
theorem vtx_in {n k : Nat} {es : List E} (hj : joinedE ⟨(n : Int), es⟩ = 0) (hk : k < n) : vtxE ⟨(n : Int), es⟩ (k : Int) = 0 := by
 unfold vtxE
 rw [if_neg (by omega), if_pos]
 simp only; omega
theorem RVertices_ok {n : Nat} {es : List E} (hl : es.length ≤ 40) (hs : joinedE ⟨(n : Int), es⟩ = 0 → Sm5 n es) : ACall Try.prog 20 [tG ⟨(n : Int), es⟩] (.tup [tints (vertsR n es).1, tint (vertsR n es).2]) := by
 have hJ := refJoined_ok ⟨(n : Int), es⟩ hl
 by_cases hj : joinedE ⟨(n : Int), es⟩ = 0
 ·obtain ⟨hc, _⟩ := joined_zero hj
  have hGn := Gen39_ok n es hl hc
  rw [hj] at hJ
  by_cases h6 : sizeE es - n + 1 > 6
  ·have e : vertsR n es = ([], 12) := by unfold vertsR; rw [if_neg (by omega), if_pos h6]
   rw [e]
   generalize sizeE es - n + 1 = gg at *
   refine ACall.of_body Try.func20 rfl (by kernel_rfl) ?_
   simp only [entry, Try.ntmps20, tG, tint]
   refine zU ?_
   refine zR (zc @h6 trivial) (zc hJ (zc hGn trivial)) trivial ?_
   simp [Rets, aret, Blk.cells, ty, Try.results20, ares, toT1, toT, borrow, borrow0, capCell, toTree0, tint, tints, iRows]
  ·have e : vertsR n es = (filK (wvP n es) n, 0) := by unfold vertsR; rw [if_neg (by omega), if_neg h6]
   rw [e]
   have hW : ∀ k : Nat, k < n → ACall Try.prog 18 [tG ⟨(n : Int), es⟩, tint k] (.tup [tint (wgt n es k), tint 0]) := fun k hk => by
    have := RWeight_ok hl hs k
    have hv := vtx_in hj hk
    have hg : gapsR n es k = (gapsL n es k, 0) := by unfold gapsR; rw [if_neg (by omega), if_neg (by omega)]; rfl
    have hw : weightR n es k = (wgt n es k, 0) := by unfold weightR; rw [hg, if_neg (by simp)]; rfl
    rw [hw] at this
    exact this
   have hfl := fun k => filK_len (wvP n es) k
   have hz : filK (wvP n es) 0 = [] := rfl
   have h12 := (hs hj).n5
   have hwP : ∀ k, wvP n es k = decide (wgt n es k > 0) := fun _ => rfl
   clear hs hc e
   generalize wvP n es = p at *
   generalize sizeE es - n + 1 = gg at *
   refine ACall.of_body Try.func20 rfl (by kernel_rfl) ?_
   simp only [entry, Try.ntmps20, tG, tint]
   refine zU ?_
   refine zJ (stop 7) (zc @h6 trivial) (zc hJ (zc hGn trivial)) trivial trivial ?_
   refine AWp.weak (Weak.opens ((fun t f => [f, f, f, f, f, t, f, f, f, f, f, f, f, f, f, f, f, f, f, f, f, f, f, f, f, f, f, f, f, f, f, f, f, f, f, f]) true false) 1 (by first | omega | simp)) ?_
   simp only [openS, openV, List.length_cons, List.length_nil, List.length_append, Nat.reduceAdd, List.cons_append, List.nil_append]
   refine zR trivial trivial trivial ?_
   refine AWp.loopS (α:=Nat) 36 (fun k=>[(1,.c (.ptr 0 0)),(5,.c (.slice (iRows (filK p k)) (.chain 1))),(6,.c (.int .i64 (k : Int)))]) (fun k=>[.box [.int .i64 (n : Int), .slice (eRows es) .none], .chain (filK p k).length 1]) (fun k=>k ≤ n) (fun k=>n - k) (0) (hk:=Weak.headL 2 36 [1, 5, 6] (zV2 @iC_in @bC_inS)) (h0:=?_) (round:=fun k hI=>?_)
   ·exact Nat.zero_le _
   ·have hk : k ≤ n := hI
    clear hI
    by_cases hkl : k < n
    ·have hkI : (k : Int) < (n : Int) := by omega
     have hWk := hW k hkl
     have hlk := hfl k
     have hpk := hwP k
     have hp1 := filK_pos (p := p) (k := k)
     have hp0 := filK_neg (p := p) (k := k)
     clear hW hfl hwP
     generalize wgt n es k = w at *
     by_cases hw0 : w > 0
     ·rw [decide_eq_true hw0] at hpk
      have hs1 := hp1 hpk
      generalize hS1 : filK p (k + 1) = S1 at *
      generalize filK p k = S0 at *
      have hln : S1.length = S0.length + 1 := by rw [hs1]; simp
      refine zRc (zc @hkI (zc @hw0 (zc @iRows_len (zc @iRows_snoc trivial)))) (zc hWk trivial) @iRows_k' ?_
      rw [← hs1]
      refine ⟨k + 1,Weak.headF 2 36 [1, 5, 6] (zc @hS1 (zc @hln trivial)) (zV2 @iC_in @bC_inS),?_,?_⟩
      ·exact hkl
      ·omega
     ·rw [decide_eq_false hw0] at hpk
      have hs0 := hp0 hpk
      generalize hS1 : filK p (k + 1) = S1 at *
      generalize filK p k = S0 at *
      refine zR (zc @hkI (zc @hw0 trivial)) (zc hWk trivial) trivial ?_
      refine ⟨k + 1,Weak.headF 2 36 [1, 5, 6] (zc @hS1 (zc @hs0 trivial)) (zV2 @iC_in @bC_inS),?_,?_⟩
      ·exact hkl
      ·omega
    ·have hnl : ¬ (k : Int) < (n : Int) := by omega
     have ek : k = n := by omega
     rw [ek]
     rw [ek] at hnl
     clear hW hfl hwP
     generalize filK p n = S0 at *
     refine zR (zc @hnl trivial) trivial trivial ?_
     simp [Rets, aret, Blk.cells, ty, Try.results20, ares, toT1, toT, borrow, borrow0, capCell, toTree0, tint, tints]
 ·have e : vertsR n es = ([], joinedE ⟨(n : Int), es⟩) := by unfold vertsR; rw [if_pos hj]
  rw [e]
  generalize joinedE ⟨(n : Int), es⟩ = er at *
  refine ACall.of_body Try.func20 rfl (by kernel_rfl) ?_
  simp only [entry, Try.ntmps20, tG, tint]
  refine zU ?_
  refine zR (zc @hj trivial) (zc hJ trivial) trivial ?_
  simp [Rets, aret, Blk.cells, ty, Try.results20, ares, toT1, toT, borrow, borrow0, capCell, toTree0, tint, tints, iRows]
theorem wranks_ok {n : Nat} {es : List E} (h : Sm5 n es) {v : Nat} (hv : v < n) {N : Nat} (hN : N ≤ 20) : ACall Try.prog 31 [tG ⟨(n : Int), es⟩, tint v, tint N] (.tup [tints (alongL n es v (N + 1)), tint 0]) := by
 have hA := along_ok ⟨(n : Int), es⟩ (v : Int)
 have hIt := along1_ok h hv (N := N + 1) (by omega)
 have hal := fun k => alongL_len n es v k
 have hz : alongL n es v 0 = [] := rfl
 have hsc := fun k => alongL_succ n es v k
 refine ACall.of_body Try.func31 rfl (by kernel_rfl) ?_
 simp only [entry, Try.ntmps31, tG, tint]
 refine zU ?_
 refine zJ (stop 2) trivial trivial trivial trivial ?_
 refine AWp.weak (Weak.openB 4 0 1 rfl rfl (by omega)) ?_
 simp only [List.set_cons_succ, List.set_cons_zero, List.length_cons, List.length_nil, List.length_append, Nat.reduceAdd, List.cons_append, List.nil_append]
 repeat' ((fail_if_success (with_reducible refine AWp.atSeq 99 ?_));(fail_if_success (with_reducible refine AWp.atLast 99 ?_));first|((first|(refine zT ?_;intro K' hK')|(refine zG ?_ ?_<;>(try refine zH ?_)<;>intro hguard<;>(try exact zX)<;>try intro K' hK'))<;>((try simp +contextual only [go_sem, tG, ofT, ofT1, ofTree, List.map_cons, List.map_nil]);(repeat' first|(with_reducible refine hK' _ _ ?_;clear hK' K')|(with_reducible refine zK hA ?_;try simp +contextual only [go_sem, tG, ofT, ofT1, ofTree, List.map_cons, List.map_nil])|exact zY|with_reducible refine And.intro ?_ ?_|(with_reducible intro hpath;try exact zP)|(refine hK' _ _ ?_;clear hK' K')|fail);try refine zS ?_))|(refine zE ?_;refine hK _ _ ?_;clear hK K)|(refine zN ?_;try refine zS ?_)|refine zA ?_|(refine zB ?_;intro K hK)|(refine zC ?_ ?_<;>(try refine zH ?_)<;>intro hcond<;>try exact zX)|fail)
 refine AWp.weak (Weak.head (m := 6) (by omega) ((fun t f => [f, f, f, t, f, t, t, t, t, f, f, f, f, t, f, f, f, f, f, f, f, f, f, f, f, f, f, f]) true false) (by first | rfl | simp [mask]) (by first | rfl | simp) (by (repeat' (first | exact valsIn_nil _ | refine valsIn_cons ?_ ?_ | refine cellsIn_cons ?_ ?_ | exact cellsIn_nil _ | exact True.intro | (show _ < _; omega) | (intro c hc; cases hc; done) | (intro c hc; simp only [List.mem_cons, List.not_mem_nil, or_false] at hc; subst hc; first | exact True.intro | (show _ < _; omega)) | (intro c hc; simp only [List.mem_cons, List.not_mem_nil, or_false] at hc; rcases hc with rfl | rfl <;> first | exact True.intro | (show _ < _; omega))))) (by (repeat' (first | exact valsIn_nil _ | exact blksIn_nil _ | exact cellsIn_nil _ | refine And.intro ?_ ?_ | refine valsIn_cons ?_ ?_ | refine blksIn_cons ?_ ?_ | refine cellsIn_cons ?_ ?_ | exact True.intro | exact iC_in | exact bC_inS | (show _ < _; omega) | exact cellsIn_map (fun _ => True.intro) | (intro c hc; cases hc; done) | (intro c hc; simp only [List.mem_cons, List.not_mem_nil, or_false] at hc; subst hc; first | exact True.intro | exact iC_in | exact bC_inS | (show _ < _; omega)) | (intro c hc; simp only [List.mem_cons, List.not_mem_nil, or_false] at hc; rcases hc with rfl | rfl <;> first | exact True.intro | exact iC_in | exact bC_inS | (show _ < _; omega)))))) (AWp.rangeFuncB (fun k H => H = [.box [.int .i64 (n : Int), .slice (eRows es) .none], .box [.int .i64 (N : Int)], .box [.nils], .box [.int .i64 0], .box [.slice (iRows (alongL n es v k)) (.chain 5)], .chain (alongL n es v k).length 1] ∧ (k ≤ N)) (fun e H => e = .exit 0 ∧ H = [.box [.int .i64 (n : Int), .slice (eRows es) .none], .box [.int .i64 (N : Int)], .box [.nils], .box [.int .i64 0], .box [.slice (iRows (alongL n es v (N + 1))) (.chain 5)], .chain (alongL n es v (N + 1)).length 1]) 6 rfl (⟨hIt, fun H q => by obtain ⟨_, q2⟩ := q; rw [itemsA_len] at q2; omega⟩) (fun k ts hts => by obtain ⟨_, rfl⟩ := itemsA_inv hts; rfl) (by omega) (by (repeat' (first | exact valsIn_nil _ | refine valsIn_cons ?_ ?_ | refine cellsIn_cons ?_ ?_ | exact cellsIn_nil _ | exact True.intro | (show _ < _; omega) | (intro c hc; cases hc; done) | (intro c hc; simp only [List.mem_cons, List.not_mem_nil, or_false] at hc; subst hc; first | exact True.intro | (show _ < _; omega)) | (intro c hc; simp only [List.mem_cons, List.not_mem_nil, or_false] at hc; rcases hc with rfl | rfl <;> first | exact True.intro | (show _ < _; omega))))) (by rintro _ _ ⟨rfl, -⟩; simp) ?_ ?_ (fun l k ts H hts hI => ?_) (fun H hI => ?_) (fun e H hX => ?_))
 ·rintro _ _ ⟨-, rfl⟩; simp
 ·exact ⟨by rw [hz]; rfl, Nat.zero_le _⟩
 ·obtain ⟨rfl, hk⟩ := hI
  obtain ⟨hkl, rfl⟩ := itemsA_inv hts
  have hs := hsc k
  have hl0 := hal k
  have hl1 := hal (k + 1)
  generalize rkT n es v k = r at *
  by_cases hkN : k = N
  ·rw [hkN] at hs hl0 hl1 ⊢
   clear hsc hal hIt
   generalize hA1 : alongL n es v (N + 1) = A1 at *
   generalize alongL n es v N = A0 at *
   have hgt : (N : Int) + 1 > (N : Int) := by omega
   simp only [mask, setPs, List.zip_cons_cons, List.zip_nil_right, List.zip_nil_left, List.foldl_cons, List.foldl_nil, List.set_cons_succ, List.set_cons_zero, ofT, ofT1, ofTree, List.map_cons, List.map_nil, ofT, ofT1, toT, toT1, toTree0, tint, tbool, tpair, tG, tpairs, tints, tbools]
   repeat' (first|((first|(refine zT ?_;intro K' hK')|(refine zG ?_ ?_<;>(try refine zH ?_)<;>intro hguard<;>(try exact zX)<;>try intro K' hK'))<;>((try simp +contextual only [go_sem, iRows_len, iRows_snoc, hl0, hgt, List.length_append, List.length_cons, List.length_nil, chunks, List.range, List.range.loop]);(repeat' first|(with_reducible refine hK' _ _ ?_;clear hK' K')|(with_reducible exact iRows_k' (by assumption))|exact zY|with_reducible refine And.intro ?_ ?_|(with_reducible intro hpath;try exact zP)|(refine hK' _ _ ?_;clear hK' K')|fail);try refine zS ?_))|(refine zE ?_;refine hK _ _ ?_;clear hK K)|(refine zN ?_;try refine zS ?_)|refine zA ?_|(refine zB ?_;intro K hK)|(refine zC ?_ ?_<;>(try refine zH ?_)<;>intro hcond<;>try exact zX)|fail)
   rw [← hs]
   refine ⟨⟨_, _⟩, Weak.head2 (m := 6) (by decide) ((fun t f => [f, f, f, f, f, f, f, f, f, f, f, f, f, f, f, f, f, f, f, f, f, f, f, f, f, f, f, f]) true false) rfl rfl (zV2 @iC_in @bC_inS), ?_, ?_⟩
   ·rfl
   ·rw [hl1]; rfl
  ·
   have hlt : ¬ ((k : Int) + 1 > (N : Int)) := by omega
   clear hsc hal hIt
   generalize hA1 : alongL n es v (k + 1) = A1 at *
   generalize alongL n es v k = A0 at *
   have hln : A0.length + 1 = A1.length := by omega
   simp only [mask, setPs, List.zip_cons_cons, List.zip_nil_right, List.zip_nil_left, List.foldl_cons, List.foldl_nil, List.set_cons_succ, List.set_cons_zero, ofT, ofT1, ofTree, List.map_cons, List.map_nil, ofT, ofT1, toT, toT1, toTree0, tint, tbool, tpair, tG, tpairs, tints, tbools]
   repeat' (first|((first|(refine zT ?_;intro K' hK')|(refine zG ?_ ?_<;>(try refine zH ?_)<;>intro hguard<;>(try exact zX)<;>try intro K' hK'))<;>((try simp +contextual only [go_sem, iRows_len, iRows_snoc, hl0, hlt, List.length_append, List.length_cons, List.length_nil, chunks, List.range, List.range.loop]);(repeat' first|(with_reducible refine hK' _ _ ?_;clear hK' K')|(with_reducible exact iRows_k' (by assumption))|exact zY|with_reducible refine And.intro ?_ ?_|(with_reducible intro hpath;try exact zP)|(refine hK' _ _ ?_;clear hK' K')|fail);try refine zS ?_))|(refine zE ?_;refine hK _ _ ?_;clear hK K)|(refine zN ?_;try refine zS ?_)|refine zA ?_|(refine zB ?_;intro K hK)|(refine zC ?_ ?_<;>(try refine zH ?_)<;>intro hcond<;>try exact zX)|fail)
   rw [← hs]
   refine ⟨⟨_, _⟩, Weak.head2 (m := 6) (by decide) ((fun t f => [f, f, f, f, f, f, f, f, f, f, f, f, f, f, f, f, f, f, f, f, f, f, f, f, f, f, f, f]) true false) rfl rfl (zV2 @iC_in @bC_inS), ?_, ?_⟩
   ·rw [hA1, hl1]; rfl
   ·omega
 ·obtain ⟨-, q⟩ := hI
  rw [itemsA_len] at q
  omega
 ·obtain ⟨rfl, rfl⟩ := hX
  clear hsc hal hIt
  generalize alongL n es v (N + 1) = A1 at *
  simp only [mask]
  refine zR trivial trivial trivial ?_
  simp [Rets, aret, Blk.cells, ty, Try.results31, ares, toT1, toT, borrow, borrow0, capCell, toTree0, tint, tints]
end Go.Proofs.Ytdhfgihnoimoaaa
