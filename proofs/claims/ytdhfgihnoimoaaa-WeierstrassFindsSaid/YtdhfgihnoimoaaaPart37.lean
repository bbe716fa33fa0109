/- A part of the proof. -/
import Derived.Test.YtdhfgihnoimoaaaLayerC
import Derived.Test.YtdhfgihnoimoaaaPart36
import Derived.Test.YtdhfgihnoimoaaaPart31
import Derived.Test.YtdhfgihnoimoaaaLayerD
set_option linter.all false
set_option maxHeartbeats 4000000
set_option maxRecDepth 100000
namespace Go.Proofs.Ytdhfgihnoimoaaa
open Go.Sp
theorem WRanks_ok {n : Nat} {es : List E} (hl : es.length ≤ 40) (hs : joinedE ⟨(n : Int), es⟩ = 0 → Sm5 n es) (v N : Int) (hN : N ≤ 11 ∨ 12 < N) : ACall Try.prog 11 [tG ⟨(n : Int), es⟩, tint v, tint N] (.tup [tints (ranksR n es v N).1, tint (ranksR n es v N).2]) := by
 have hG := wat_ok ⟨(n : Int), es⟩ v hl
 by_cases hv : vtxE ⟨(n : Int), es⟩ v = 0
 ·obtain ⟨hj, k, rfl, hk⟩ := vtx_zero hv
  by_cases hNr : N < 0 ∨ 12 < N
  ·have e : ranksR n es k N = ([], 2) := by unfold ranksR; rw [if_neg (by omega), if_pos hNr]
   rw [e]
   rw [hv] at hG
   by_cases h1 : N < 0
   ·
    refine ACall.of_body Try.func11 rfl (by kernel_rfl) ?_
    simp only [entry, Try.ntmps11, tG, tint]
    refine zU ?_
    refine zR (zc @h1 trivial) (zc hG trivial) trivial ?_
    simp [Rets, aret, Blk.cells, ty, Try.results11, ares, toT1, toT, borrow, borrow0, capCell, toTree0, tint, tints, iRows]
   ·have h2 : N > 12 := by omega
    refine ACall.of_body Try.func11 rfl (by kernel_rfl) ?_
    simp only [entry, Try.ntmps11, tG, tint]
    refine zU ?_
    refine zR (zc @h1 (zc @h2 trivial)) (zc hG trivial) trivial ?_
    simp [Rets, aret, Blk.cells, ty, Try.results11, ares, toT1, toT, borrow, borrow0, capCell, toTree0, tint, tints, iRows]
  ·have e : ranksR n es k N = (alongL n es k (N.toNat + 1), 0) := by unfold ranksR; rw [if_neg (by omega), if_neg hNr]; rfl
   rw [e]
   rw [hv] at hG
   have h1 : ¬ N < 0 := by omega
   have h2 : ¬ N > 12 := by omega
   have hA := wranks_ok (hs hj) hk (N := N.toNat) (by omega)
   rw [show ((N.toNat : Nat) : Int) = N by omega] at hA
   generalize alongL n es k (N.toNat + 1) = l at *
   refine ACall.of_body Try.func11 rfl (by kernel_rfl) ?_
   simp only [entry, Try.ntmps11, tG, tint]
   refine zU ?_
   refine zR (zc @h1 (zc @h2 trivial)) (zc hG (zc hA trivial)) trivial ?_
   simp [Rets, aret, Blk.cells, ty, Try.results11, ares, toT1, toT, borrow, borrow0, capCell, toTree0, tint, tints]
 ·have e : ranksR n es v N = ([], vtxE ⟨(n : Int), es⟩ v) := by unfold ranksR; rw [if_pos hv]
  rw [e]
  generalize vtxE ⟨(n : Int), es⟩ v = er at *
  refine ACall.of_body Try.func11 rfl (by kernel_rfl) ?_
  simp only [entry, Try.ntmps11, tG, tint]
  refine zU ?_
  refine zR (zc @hv trivial) (zc hG trivial) trivial ?_
  simp [Rets, aret, Blk.cells, ty, Try.results11, ares, toT1, toT, borrow, borrow0, capCell, toTree0, tint, tints, iRows]
theorem wgenus_ok {n : Nat} {es : List E} (g : Gok n es) (hs : sizeE es ≤ 1000) : ACall Try.prog 35 [tG ⟨(n : Int), es⟩] (.tup [tint (if 6 < sizeE es - n + 1 then 0 else sizeE es - n + 1), tint (if 6 < sizeE es - n + 1 then 12 else 0)]) := by
 obtain ⟨es2, l2, hlim, hc2, hgen, _⟩ := lim_ok g
 have hl := g.hl
 have hL : ACall Try.prog 58 [tG ⟨(n : Int), es⟩] (.tup [tG ⟨(n : Int), es2⟩, tint 0]) := by
  have := Loopless_ok ⟨(n : Int), es⟩ (by show es.length < _; omega)
  rw [g.hc, hlim] at this; exact this
 have hG : ACall Try.prog 59 [tG ⟨(n : Int), es2⟩] (.tup [tint (sizeE es - n + 1), tint 0]) := by
  have := Genus_ok ⟨(n : Int), es2⟩ (by show es2.length < _; omega)
  rw [hc2] at this
  rw [← hgen]; exact this
 clear hlim hc2 hgen
 generalize sizeE es - n + 1 = gg at *
 by_cases h6 : 6 < gg
 ·rw [if_pos h6, if_pos h6]
  refine ACall.of_body Try.func35 rfl (by kernel_rfl) ?_
  simp only [entry, Try.ntmps35, tG]
  refine zU ?_
  refine zR (zc @h6 trivial) (zc hL (zc hG trivial)) trivial ?_
  simp [Rets, aret, Blk.cells, ty, Try.results35, ares, toT1, toT, borrow, borrow0, capCell, toTree0, tint]
 ·rw [if_neg h6, if_neg h6]
  refine ACall.of_body Try.func35 rfl (by kernel_rfl) ?_
  simp only [entry, Try.ntmps35, tG]
  refine zU ?_
  refine zR (zc @h6 trivial) (zc hL (zc hG trivial)) trivial ?_
  simp [Rets, aret, Blk.cells, ty, Try.results35, ares, toT1, toT, borrow, borrow0, capCell, toTree0, tint]
theorem WGaps_ok {n : Nat} {es : List E} (hl : es.length ≤ 40) (hs : joinedE ⟨(n : Int), es⟩ = 0 → Sm5 n es) (v : Int) : ACall Try.prog 15 [tG ⟨(n : Int), es⟩, tint v] (.tup [tints (gapsR n es v).1, tint (gapsR n es v).2]) := by
 have hG := wat_ok ⟨(n : Int), es⟩ v hl
 by_cases hv : vtxE ⟨(n : Int), es⟩ v = 0
 ·obtain ⟨hj, k0, rfl, hk0⟩ := vtx_zero hv
  have h := hs hj
  have hz := h.sz
  have hGn := wgenus_ok h.g (by omega)
  have hpos := gen_pos h.g
  have h5 := h.n5
  rw [hv] at hG
  by_cases h6 : 6 < sizeE es - n + 1
  ·have e : gapsR n es k0 = ([], 12) := by unfold gapsR; rw [if_neg (by omega), if_pos h6]
   rw [e]
   rw [if_pos h6, if_pos h6] at hGn
   refine ACall.of_body Try.func15 rfl (by kernel_rfl) ?_
   simp only [entry, Try.ntmps15, tG, tint]
   refine zU ?_
   refine zR trivial (zc hG (zc hGn trivial)) trivial ?_
   simp [Rets, aret, Blk.cells, ty, Try.results15, ares, toT1, toT, borrow, borrow0, capCell, toTree0, tint, tints, iRows]
  ·have e : gapsR n es k0 = (gapsL n es k0, 0) := by unfold gapsR; rw [if_neg (by omega), if_neg h6]; rfl
   rw [e]
   rw [if_neg h6, if_neg h6] at hGn
   have hf1 : (max (2 * (sizeE es - n + 1) - 1) 0).toNat ≤ 20 := by omega
   have hA := wranks_ok h hk0 (N := (max (2 * (sizeE es - n + 1) - 1) 0).toNat) hf1
   have hmx : ((max (2 * (sizeE es - n + 1) - 1) 0).toNat : Int) = max 0 (2 * (sizeE es - n + 1) - 1) := by omega
   have hfN : (max (2 * (sizeE es - n + 1) - 1) 0).toNat + 1 = farN (sizeE es - n + 1) := rfl
   rw [hmx, hfN] at hA
   have hNl : farN (sizeE es - n + 1) ≤ 12 := by unfold farN; omega
   have hN1 : 1 ≤ farN (sizeE es - n + 1) := by unfold farN; omega
   have hNG : ∀ k : Nat, 1 ≤ k → (k < farN (sizeE es - n + 1) ↔ (k : Int) < 2 * (sizeE es - n + 1)) := fun k hk => by unfold farN; omega
   have hgl2 : gapsL n es k0 = gapL (alongL n es k0 (farN (sizeE es - n + 1))) (farN (sizeE es - n + 1)) := rfl
   rw [hgl2]
   have hlen := alongL_len n es k0 (farN (sizeE es - n + 1))
   clear hgl2 hfN hmx hf1 e hs
   generalize alongL n es k0 (farN (sizeE es - n + 1)) = l at *
   generalize farN (sizeE es - n + 1) = N at *
   have hGb : 0 ≤ sizeE es - n + 1 ∧ sizeE es - n + 1 ≤ 6 := by omega
   generalize sizeE es - n + 1 = gg at *
   have hgl := fun k => gapL_len l k
   have hg1 : gapL l 1 = [] := by unfold gapL gapL; rw [if_neg (by omega)]
   refine ACall.of_body Try.func15 rfl (by kernel_rfl) ?_
   simp only [entry, Try.ntmps15, tG, tint]
   refine zU ?_
   refine zJ (stop 11) trivial (zc hG (zc hGn (zc hA trivial))) trivial trivial ?_
   refine AWp.weak (Weak.opens ((fun t f => [f, f, f, f, f, f, f, f, f, f, t, f, f, f, f, f, f, f, f, f, f, f, f, f, f, f, f, f, f, f, f, f, f, f, f, f, f, f, f, f, f, f, f, f, f, f, f, f, f, f, f, f, f, f, f, f, f, f, f, f]) true false) 1 (by first | omega | simp)) ?_
   simp only [openS, openV, List.length_cons, List.length_nil, List.length_append, Nat.reduceAdd, List.cons_append, List.nil_append]
   refine zR trivial trivial trivial ?_
   refine AWp.loopS (α:=Nat) 60 (fun k=>[(7,.c (.int .i64 gg)),(9,.c (.slice (iRows l) .none)),(10,.c (.slice (iRows (gapL l k)) (.chain 1))),(11,.c (.int .i64 (k : Int)))]) (fun k=>[.box [.int .i64 (n : Int), .slice (eRows es) .none], .chain (gapL l k).length 1]) (fun k=>1 ≤ k ∧ k ≤ N) (fun k=>N - k) (1) (hk:=Weak.headL 2 60 [7, 9, 10, 11] (zV2 @iC_in @bC_inS)) (h0:=?_) (round:=fun k hI=>?_)
   ·exact ⟨Nat.le_refl _, hN1⟩
   ·obtain ⟨hk1, hk⟩ := hI
    by_cases hkl : k < N
    ·have hkI := (hNG k hk1).1 hkl
     have hg := iRows_get (getD_get (d := l) (i := k) (by omega))
     have hg' := iRows_get (getD_get (d := l) (i := k - 1) (by omega))
     have hkm : ((k : Int) - 1).toNat = k - 1 := by omega
     have hgn := hgl k
     have hp := gapL_pos (l := l) hk1
     have hn := gapL_neg (l := l) (k := k)
     clear hgl hNG
     generalize l.getD k 0 = x at *
     generalize l.getD (k - 1) 0 = y at *
     generalize hS1 : gapL l (k + 1) = S1 at *
     generalize gapL l k = S0 at *
     by_cases hxy : x = y
     ·have hp' := hp hxy
      have hln : S1.length = S0.length + 1 := by rw [hp']; simp
      refine zRc (zc @hkI (zc @hg (zc @hg' (zc @hkm (zc @hxy (zc @iRows_len (zc @iRows_snoc (zc @hlen trivial)))))))) trivial @iRows_k' ?_
      rw [← hp']
      refine ⟨k + 1,Weak.headF 2 60 [7, 9, 10, 11] (zc @hS1 (zc @hln trivial)) (zV2 @iC_in @bC_inS),?_,?_⟩
      ·exact ⟨by omega, hkl⟩
      ·omega
     ·have hn' := hn hxy
      refine zR (zc @hkI (zc @hg (zc @hg' (zc @hkm (zc @hxy (zc @iRows_len (zc @hlen trivial))))))) trivial trivial ?_
      refine ⟨k + 1,Weak.headF 2 60 [7, 9, 10, 11] (zc @hS1 (zc @hn' trivial)) (zV2 @iC_in @bC_inS),?_,?_⟩
      ·exact ⟨by omega, hkl⟩
      ·omega
    ·have hnl : ¬ (k : Int) < 2 * gg := fun q => hkl ((hNG k hk1).2 q)
     have ek : k = N := by omega
     clear hNG
     rw [ek]
     rw [ek] at hnl
     clear hgl
     generalize gapL l N = S0 at *
     refine zR (zc @hnl trivial) trivial trivial ?_
     simp [Rets, aret, Blk.cells, ty, Try.results15, ares, toT1, toT, borrow, borrow0, capCell, toTree0, tint, tints]
 ·have e : gapsR n es v = ([], vtxE ⟨(n : Int), es⟩ v) := by unfold gapsR; rw [if_pos hv]
  rw [e]
  generalize vtxE ⟨(n : Int), es⟩ v = er at *
  refine ACall.of_body Try.func15 rfl (by kernel_rfl) ?_
  simp only [entry, Try.ntmps15, tG, tint]
  refine zU ?_
  refine zR (zc @hv trivial) (zc hG trivial) trivial ?_
  simp [Rets, aret, Blk.cells, ty, Try.results15, ares, toT1, toT, borrow, borrow0, capCell, toTree0, tint, tints, iRows]
theorem WWeight_ok {n : Nat} {es : List E} (hl : es.length ≤ 40) (hs : joinedE ⟨(n : Int), es⟩ = 0 → Sm5 n es) (v : Int) : ACall Try.prog 17 [tG ⟨(n : Int), es⟩, tint v] (.tup [tint (weightR n es v).1, tint (weightR n es v).2]) := by
 have hGp := WGaps_ok hl hs v
 by_cases he : (gapsR n es v).2 = 0
 ·have e : weightR n es v = (wgt n es v.toNat, 0) := by unfold weightR; rw [if_neg (by omega)]
  rw [e]
  have hv : vtxE ⟨(n : Int), es⟩ v = 0 := by
   refine Classical.byContradiction fun h => ?_
   unfold gapsR at he
   rw [if_pos h] at he
   exact h he
  obtain ⟨hj, k, rfl, hk⟩ := vtx_zero hv
  have h := hs hj
  have hz := h.sz
  have hGn := wgenus_ok h.g (by omega)
  have h6 : ¬ 6 < sizeE es - n + 1 := fun h => by
   unfold gapsR at he
   rw [if_neg (by omega), if_pos h] at he
   cases he
  rw [if_neg h6, if_neg h6] at hGn
  have hg : gapsR n es k = (gapsL n es k, 0) := by unfold gapsR; rw [if_neg (by omega), if_neg h6]; rfl
  rw [hg] at hGp
  have hpos := gen_pos h.g
  obtain ⟨b1, b2⟩ := gapsL_bnd (n := n) (es := es) (v := k) (by omega)
  obtain ⟨t1, t2, t3, t4, t5, t6⟩ := halfT_ok (G := sizeE es - n + 1) (by omega)
  have hw : wgt n es (k : Int).toNat = sumL (gapsL n es k) - halfT (sizeE es - n + 1) := rfl
  rw [hw]
  have t7 : -(sizeE es - n + 1) * (sizeE es - n + 1 + 1) = -((sizeE es - n + 1) * (sizeE es - n + 1 + 1)) := Int.neg_mul _ _
  rw [t7] at t6
  have h2 : ¬ (2 : Int) = 0 := by decide
  have hfin : sumD (gapsL n es k) (gapsL n es k).length = sumL (gapsL n es k) := sumD_sumL rfl
  rw [← hfin]
  have hsb := fun i => sumR_bnd b2 i
  have hs0 : sumD (gapsL n es k) 0 = 0 := rfl
  have hsn : ∀ i, sumD (gapsL n es k) (i + 1) = sumD (gapsL n es k) i + (gapsL n es k).getD i 0 := fun i => rfl
  have hsd : ∀ i, sumR (fun v => (gapsL n es k).getD v 0) i = sumD (gapsL n es k) i := fun i => rfl
  simp only [hsd] at hsb
  clear hfin hsd hs
  generalize gapsL n es k = l at *
  generalize halfT (sizeE es - n + 1) = t at *
  generalize sizeE es - n + 1 = gg at *
  have hz0 : -t = sumD l 0 - t := by rw [hs0]; omega
  refine ACall.of_body Try.func17 rfl (by kernel_rfl) ?_
  simp only [entry, Try.ntmps17, tG, tint]
  refine zU ?_
  refine zR (zc @t6 (zc @t7 (zc @iRows_len trivial))) (zc hGp (zc hGn trivial)) trivial ?_
  rw [hz0]
  refine AWp.loopS (α:=Nat) 46 (fun i=>[(9,.c (.int .i64 (sumD l i - t))),(35,.c (.slice (iRows l) .none)),(36,.c (.int .i64 (l.length : Int))),(37,.c (.int .i64 (i : Int)))]) (fun i=>[]) (fun i=>i ≤ l.length) (fun i=>l.length - i) (0) (hk:=Weak.headL 0 46 [9, 35, 36, 37] (zV2 @iC_in @bC_inS)) (h0:=?_) (round:=fun i hI=>?_)
  ·exact Nat.zero_le _
  ·have hi : i ≤ l.length := hI
   clear hI
   by_cases hil : i < l.length
   ·have hiI : (i : Int) < (l.length : Int) := by omega
    have hgx := iRows_get (getD_get (d := l) (i := i) hil)
    have hx := b2 i
    have hsi := hsb i
    have hnx := hsn i
    clear hsb hsn
    generalize hN1 : sumD l (i + 1) = N1 at *
    generalize sumD l i = N0 at *
    generalize l.getD i 0 = x at *
    have e3 : N0 - t + x = N1 - t := by omega
    refine zR (zc @hiI (zc @hgx (zc @e3 (zc @iRows_len (zc @Nat.zero_add trivial))))) trivial trivial ?_
    refine ⟨i + 1,Weak.headF 0 46 [9, 35, 36, 37] (zc @hN1 trivial) (zV2 @iC_in @bC_inS),?_,?_⟩
    ·exact hil
    ·omega
   ·have hnl : ¬ (i : Int) < (l.length : Int) := by omega
    have ei : i = l.length := by omega
    rw [ei]
    rw [ei] at hnl
    clear hsb hsn
    generalize sumD l l.length = S at *
    refine zR (zc @hnl trivial) trivial trivial ?_
    simp [Rets, aret, Blk.cells, ty, Try.results17, ares, toT1, toT, borrow, borrow0, capCell, toTree0, tint]
 ·have e : weightR n es v = (0, (gapsR n es v).2) := by unfold weightR; rw [if_pos he]
  rw [e]
  generalize gapsR n es v = p at *
  obtain ⟨l, er⟩ := p
  simp only at he hGp ⊢
  refine ACall.of_body Try.func17 rfl (by kernel_rfl) ?_
  simp only [entry, Try.ntmps17, tG, tint]
  refine zU ?_
  refine zR (zc @he trivial) (zc hGp trivial) trivial ?_
  simp [Rets, aret, Blk.cells, ty, Try.results17, ares, toT1, toT, borrow, borrow0, capCell, toTree0, tint, tints]
theorem valF3 {m : Nat} {f : FuncId} {a b c : Tree} : valIn m (.c (.fn f [.tree a, .tree b, .tree c])) := by
 intro x hx
 simp only [List.mem_cons, List.not_mem_nil, or_false] at hx
 rcases hx with rfl | rfl | rfl <;> exact True.intro
theorem filtV_x {n : Nat} {es : List E} (h12 : n ≤ 12) (p : Nat → Bool) (hk : ∀ (H : List Blk) (v : Nat), v < n → ACallH Try.prog 40 H [.c (.int .i64 (v : Int)), .c (.rptr [.int .i64 (n : Int), .slice (eRows es)])] H (.tup [.c (.bool (p v)), .c (.int .i64 0)])) :
  ACallX Try.prog 39 [] [ofT (tG ⟨(n : Int), es⟩), ofT (.t (.fn 40 [.rptr [.int .i64 (n : Int), .slice (eRows es)]]))] (.tup [tints (filK p n), tint 0]) := by
 have hfl := fun k => filK_len p k
 have hz : filK p 0 = [] := rfl
 have hall : ∀ l : List Int, (iRows l).all flatRow = true := fun l => by rw [List.all_eq_true]; intro r hr; obtain ⟨x, _, rfl⟩ := List.mem_map.1 hr; rfl
 refine ACallX.of_body Try.func39 rfl (by kernel_rfl) (by simp [isMap]) ?_
 simp only [entry, Try.ntmps39, ofT, ofT1, ofTree, List.map_cons, List.map_nil, List.length_cons, List.length_nil, Nat.reduceAdd, Nat.reduceSub, List.replicate_succ, List.replicate_zero, List.cons_append, List.nil_append, tG]
 refine FWp.of_awp ?_
 refine zJ (stop 2) trivial trivial trivial trivial ?_
 refine AWp.weak (Weak.opens ((fun t f => [f, f, f, f, f, f, t, f, f, f, f, f, f, f, f, f, f, f, f, f, f, f, f, f, f, f, f, f, f, f, f]) true false) 1 (by first | omega | simp)) ?_
 simp only [openS, openV, List.length_cons, List.length_nil, List.length_append, Nat.reduceAdd, List.cons_append, List.nil_append]
 refine zR trivial trivial trivial ?_
 refine AWp.loopS (α:=Nat) 31 (fun k=>[(1,.c (.fn 40 [.tree (.rptr [.int .i64 (n : Int), .slice (eRows es)])])),(2,.c (.ptr 0 0)),(6,.c (.slice (iRows (filK p k)) (.chain 1))),(11,.c (.int .i64 (n : Int))),(12,.c (.int .i64 (k : Int)))]) (fun k=>[.box [.int .i64 (n : Int), .slice (eRows es) .none], .chain (filK p k).length 1]) (fun k=>k ≤ n) (fun k=>n - k) (0) (hk:=Weak.headL 2 31 [1, 2, 6, 11, 12] (zV3 @iC_in @valF3 @bC_inS)) (h0:=?_) (round:=fun k hI=>?_)
 ·exact Nat.zero_le _
 ·have hk2 : k ≤ n := hI
  clear hI
  by_cases hkl : k < n
  ·have hkI : (k : Int) < (n : Int) := by omega
   have hkk := fun H => hk H k hkl
   have hlk := hfl k
   have hp1 := filK_pos (p := p) (k := k)
   have hp0 := filK_neg (p := p) (k := k)
   clear hk hfl
   cases hpk : p k with
   | true =>
    have hs1 := hp1 hpk
    rw [hpk] at hkk
    generalize hS1 : filK p (k + 1) = S1 at *
    generalize filK p k = S0 at *
    have hln : S1.length = S0.length + 1 := by rw [hs1]; simp
    refine zJc trivial (zc @hkI (zc @iRows_len (zc @iRows_snoc trivial))) trivial (zc @hkk trivial) @iRows_k' ?_
    rw [← hs1]
    refine ⟨k + 1,Weak.headF 2 31 [1, 2, 6, 11, 12] (zc @hS1 (zc @hln trivial)) (zV3 @iC_in @valF3 @bC_inS),?_,?_⟩
    ·exact hkl
    ·omega
   | false =>
    have hs0 := hp0 hpk
    rw [hpk] at hkk
    generalize hS1 : filK p (k + 1) = S1 at *
    generalize filK p k = S0 at *
    refine zJ trivial (zc @hkI trivial) trivial (zc @hkk trivial) trivial ?_
    refine ⟨k + 1,Weak.headF 2 31 [1, 2, 6, 11, 12] (zc @hS1 (zc @hs0 trivial)) (zV3 @iC_in @valF3 @bC_inS),?_,?_⟩
    ·exact hkl
    ·omega
  ·have hnl : ¬ (k : Int) < (n : Int) := by omega
   have ek : k = n := by omega
   rw [ek]
   rw [ek] at hnl
   clear hk hfl
   generalize filK p n = S0 at *
   have hfr := hall S0
   rw [List.all_eq_true] at hfr
   refine zR (zc @hnl trivial) trivial trivial ?_
   simp [XRets, aretX, Blk.cells, ty, Try.results39, ares, toT1, toT, freshT, toTree0, Tree.flat, tints, tint]
   rw [if_pos hfr]; rfl
theorem WVerts1_ok {n : Nat} {es : List E} (hl : es.length ≤ 40) (hs : joinedE ⟨(n : Int), es⟩ = 0 → Sm5 n es) (hj : joinedE ⟨(n : Int), es⟩ = 0) (h6 : ¬ 6 < sizeE es - n + 1) {v : Nat} (hv : v < n) :
  ACall Try.prog 40 [tint v, .t (.rptr [.int .i64 (n : Int), .slice (eRows es)])] (.tup [tbool (wvP n es v), tint 0]) := by
 have hW := WWeight_ok hl hs v
 have hg : gapsR n es v = (gapsL n es v, 0) := by unfold gapsR; rw [if_neg (by rw [vtx_in hj hv]; simp), if_neg h6]; rfl
 have hw : weightR n es v = (wgt n es v, 0) := by unfold weightR; rw [hg, if_neg (by simp)]; rfl
 rw [hw] at hW
 have hp : wvP n es v = decide (wgt n es v > 0) := rfl
 rw [hp]
 clear hg hw hp hs
 generalize wgt n es v = w at *
 refine ACall.of_body Try.func40 rfl (by kernel_rfl) ?_
 simp only [entry, Try.ntmps40, tint]
 refine zU ?_
 repeat' ((fail_if_success (with_reducible refine AWp.atSeq 99 ?_));(fail_if_success (with_reducible refine AWp.atLast 99 ?_));first|((first|(refine zT ?_;intro K' hK')|(refine zG ?_ ?_<;>(try refine zH ?_)<;>intro hguard<;>(try exact zX)<;>try intro K' hK'))<;>((try simp +contextual only [go_sem, tG]);(repeat' first|(with_reducible refine hK' _ _ ?_;clear hK' K')|(with_reducible refine zK hW ?_;try simp +contextual only [go_sem, tG])|exact zY|with_reducible refine And.intro ?_ ?_|(with_reducible intro hpath;try exact zP)|(refine hK' _ _ ?_;clear hK' K')|fail);try refine zS ?_))|(refine zE ?_;refine hK _ _ ?_;clear hK K)|(refine zN ?_;try refine zS ?_)|refine zA ?_|(refine zB ?_;intro K hK)|(refine zC ?_ ?_<;>(try refine zH ?_)<;>intro hcond<;>try exact zX)|fail)
 simp [Rets, aret, Blk.cells, ty, Try.results40, ares, toT1, toT, borrow, borrow0, capCell, toTree0, tbool, tint]
theorem WVertices_ok {n : Nat} {es : List E} (hl : es.length ≤ 40) (hs : joinedE ⟨(n : Int), es⟩ = 0 → Sm5 n es) (hG : joinedE ⟨(n : Int), es⟩ = 0 → sizeE es - n + 1 ≤ 6) : ACall Try.prog 19 [tG ⟨(n : Int), es⟩] (.tup [tints (vertsR n es).1, tint (vertsR n es).2]) := by
 have hJ := wgiven_ok ⟨(n : Int), es⟩ hl
 by_cases hj : joinedE ⟨(n : Int), es⟩ = 0
 ·have h6 : ¬ 6 < sizeE es - n + 1 := by have := hG hj; omega
  have e : vertsR n es = (filK (wvP n es) n, 0) := by unfold vertsR; rw [if_neg (by omega), if_neg h6]
  rw [e]
  have hX := filtV_x (n := n) (es := es) (by have := (hs hj).n5; omega) (wvP n es) (fun H v hv => (WVerts1_ok hl hs hj h6 hv).h (H := H) (args := [.c (.int .i64 (v : Int)), .c (.rptr [.int .i64 (n : Int), .slice (eRows es)])]) rfl)
  have hF : ACallH Try.prog 39 [.box [.int .i64 (n : Int), .slice (eRows es) .none]] [.agg [.int .i64 (n : Int), .slice (eRows es) .none], .c (.fn 40 [.ptr 0 0])] [.box [.int .i64 (n : Int), .slice (eRows es) .none]] (.tup [.c (.slice (iRows (filK (wvP n es) n)) .none), .c (.int .i64 0)]) :=
   ACallX.h0 (ts := [tG ⟨(n : Int), es⟩, .t (.fn 40 [.rptr [.int .i64 (n : Int), .slice (eRows es)]])]) hX (by with_unfolding_all rfl)
  rw [hj] at hJ
  clear hX hs hG
  generalize filK (wvP n es) n = L at *
  refine ACall.of_body Try.func19 rfl (by kernel_rfl) ?_
  simp only [entry, Try.ntmps19, tG]
  refine zU ?_
  refine zJ trivial trivial (zc hJ trivial) (zc hF trivial) trivial ?_
  simp [Rets, aret, Blk.cells, ty, Try.results19, ares, toT1, toT, borrow, borrow0, capCell, toTree0, tint, tints]
 ·have e : vertsR n es = ([], joinedE ⟨(n : Int), es⟩) := by unfold vertsR; rw [if_pos hj]
  rw [e]
  clear hs hG
  generalize joinedE ⟨(n : Int), es⟩ = er at *
  refine ACall.of_body Try.func19 rfl (by kernel_rfl) ?_
  simp only [entry, Try.ntmps19, tG, tint]
  refine zU ?_
  refine zR (zc @hj trivial) (zc hJ trivial) trivial ?_
  simp [Rets, aret, Blk.cells, ty, Try.results19, ares, toT1, toT, borrow, borrow0, capCell, toTree0, tint, tints, iRows]
end Go.Proofs.Ytdhfgihnoimoaaa
