/- A part of the proof. -/
import Derived.Test.YtfkegnhpihoncaaGreatPart49
import Derived.Test.YtfkegnhpihoncaaGreatLayerC
set_option linter.all false
set_option maxHeartbeats 4000000
set_option maxRecDepth 100000
namespace Go.Proofs.YtfkegnhpihoncaaGreat
open Go.Sp
structure TrL (r : R) (t c : List Int) : Prop where
 cot : cotR r t = c
 len : (c.length : Int) = (endsL r.es).length - r.n + 1
 flat : genusR r = 0 → (treesG r.g).length = (treesG (dualD r).g).length ∧ joinedE (dualD r).g = 0 ∧ treeE (dualD r).g c = 0
 sm : (treesG r.g).length ≤ 16384 ∧ (treesG (dualD r).g).length ≤ 16384
theorem trL_of {r : R} (hf : fewR r = true) (hr : ribE r = 0) (h0 : dualE r = 0) (h12 : (facesR r).length ≤ 12) {t : List Int} (ht : treeE r.g t = 0) : ∃ c, TrL r t c := by
 have ho := rok_of hr
 have h9 := (few_size hf ho.c).1
 have hcz : cotE r t = 0 := by unfold cotE; rw [if_neg (by omega), if_neg (by omega)]; exact h0
 by_cases hE : (endsL r.es).length = 0
 ·have e := point_of ho hE
  subst e
  obtain ⟨_, p2, p3⟩ := point_dual hr
  have hT : treesG (⟨1, [], [[]]⟩ : R).g = [[]] := growS_full rfl
  have ht0 : t = [] := by
   obtain ⟨T, rfl, hm⟩ := tree_nat (g := (⟨1, [], [[]]⟩ : R).g) (n := 1) rfl (by omega) (fun p hp => by cases hp) ht
   have := (allT_mem.1 hm).2.2.1
   have : T = [] := List.length_eq_zero_iff.1 (by omega)
   subst this; rfl
  have hc : cotR ⟨1, [], [[]]⟩ t = [] := by
   unfold cotR
   rw [if_neg (by simpa using hcz), p3]
   exact List.Perm.eq_nil (sortI_perm [])
  refine ⟨[], hc, rfl, fun _ => ?_, ?_⟩
  ·rw [p2]
   refine ⟨rfl, ?_, ?_⟩
   ·have hc0 : checkG (⟨1, [], [[]]⟩ : R).g = 0 := ho.c
    unfold joinedE
    rw [if_neg (by omega), if_pos ho.conn]
   ·rw [← ht0]; exact ht
  ·rw [p2, hT]; simp
 ·have h : Rib r := ⟨ho, by omega, by omega, by omega⟩
  obtain ⟨hd1, hd2⟩ := h.dual_eq hr
  have hnp := h.npos
  have hn : r.g.n = ((r.n.toNat : Nat) : Int) := by show r.n = _; omega
  obtain ⟨T, rfl, hm⟩ := tree_nat hn (by omega) h.inN ht
  obtain ⟨h1, h2, h3, h4⟩ := allT_mem.1 hm
  have hce := h.cot_eq hr hm hcz
  have hcl := h.coT_len h2 (up_nodup h1)
  have hfp := h.fpos
  have hdn : (dualG r).g.n = ((facesR r).length : Nat) := rfl
  have hj : joinedE (dualG r).g = 0 := by
   have hdo := h.dual_ok
   unfold joinedE
   rw [if_neg (by have := hdo.c; omega), if_pos hdo.conn]
  have e1 : treesG r.g = allT r.n.toNat (endsL r.es) := rfl
  have e2 : treesG (dualG r).g = allT (facesR r).length (endsL (dualG r).es) := by unfold treesG; rw [hdn]; rfl
  have hb : ∀ (n : Nat) (L : List (Int × Int)), L.length ≤ 9 → (allT n L).length ≤ 16384 := fun n L hl => by
   have h5 := growS_le n L L.length [] 0
   have h6 : 2 ^ L.length ≤ 2 ^ 9 := Nat.pow_le_pow_right (by omega) hl
   unfold allT
   omega
  refine ⟨natZ (coT r T), hce, ?_, fun hg => ?_, ?_⟩
  ·unfold natZ
   rw [List.length_map]
   omega
  ·rw [hd1, e1, e2]
   exact ⟨h.same_trees hg, hj, nat_tree hdn (by omega) h.dualIn hj (h.co_tree hg hm)⟩
  ·rw [hd1, e1, e2]
   exact ⟨hb _ _ (by omega), hb _ _ (by rw [h.elen]; omega)⟩
theorem Trees_ok (r : R) (t : List Int) : ACall Tryz.prog 10 [tR r, tints t] (tbool true) := by
 have hA := awake44_ok
 have f1 := rightR_ok r
 have f2 := FewT_ok r.g
 by_cases hr : rightR r = true
 case neg =>
  simp only [Bool.not_eq_true] at hr
  rw [hr] at f1
  clear f2
  obtain ⟨n, es, ar⟩ := r
  refine ACall.of_body Tryz.func10 rfl (by kernel_rfl) ?_
  simp only [entry, Tryz.ntmps10, tR, tints]
  refine zU ?_
  refine zR trivial (zc f1 (zc hA trivial)) trivial ?_
  simp [Rets, aret, Blk.cells, ty, Tryz.results10, ares, toT1, toT, borrow, borrow0, capCell, toTree0, tbool]
 rw [hr] at f1
 obtain ⟨hf, he⟩ := rightR_iff.1 hr
 have hs := rsm_of hf
 have ho := rok_of he
 by_cases hw : smallB r.g 5 8 = true
 case neg =>
  simp only [Bool.not_eq_true] at hw
  rw [hw] at f2
  clear hr he hf hs ho hw
  obtain ⟨n, es, ar⟩ := r
  change ACall _ _ [tG ⟨n, es⟩] _ at f2
  refine ACall.of_body Tryz.func10 rfl (by kernel_rfl) ?_
  simp only [entry, Tryz.ntmps10, tR, tints]
  refine zU ?_
  refine zR trivial (zc f1 (zc f2 (zc hA trivial))) trivial ?_
  simp [Rets, aret, Blk.cells, ty, Tryz.results10, ares, toT1, toT, borrow, borrow0, capCell, toTree0, tbool]
 rw [hw] at f2
 by_cases htl : t.length ≤ 30
 case neg =>
  have htI : 30 < (t.length : Int) := by omega
  clear hr he hf hs ho hw
  obtain ⟨n, es, ar⟩ := r
  change ACall _ _ [tG ⟨n, es⟩] _ at f2
  refine ACall.of_body Tryz.func10 rfl (by kernel_rfl) ?_
  simp only [entry, Tryz.ntmps10, tR, tints]
  refine zU ?_
  refine zR (zc @iRows_len (zc @htI trivial)) (zc f1 (zc f2 (zc hA trivial))) trivial ?_
  simp [Rets, aret, Blk.cells, ty, Tryz.results10, ares, toT1, toT, borrow, borrow0, capCell, toTree0, tbool]
 have f3 := refTree_ok r.g t hs.es (by omega)
 have htI : ¬ 30 < (t.length : Int) := by omega
 by_cases ht : treeE r.g t = 0
 case neg =>
  generalize treeE r.g t = E at *
  clear hr he hf hs ho hw
  obtain ⟨n, es, ar⟩ := r
  change ACall _ _ [tG ⟨n, es⟩] _ at f2
  change ACall _ _ [tG ⟨n, es⟩, _] _ at f3
  refine ACall.of_body Tryz.func10 rfl (by kernel_rfl) ?_
  simp only [entry, Tryz.ntmps10, tR, tints]
  refine zU ?_
  refine zR (zc @iRows_len (zc @htI (zc @ht trivial))) (zc f1 (zc f2 (zc f3 (zc hA trivial)))) trivial ?_
  simp [Rets, aret, Blk.cells, ty, Tryz.results10, ares, toT1, toT, borrow, borrow0, capCell, toTree0, tbool]
 rw [ht] at f3
 have h9 := (few_size hf ho.c).1
 have hD := rDual_ok r hs
 rcases dual_err he h9 with h5 | ⟨h0, h12⟩
 ·rw [h5] at hD
  generalize dualD r = d at *
  generalize dualN r = l at *
  clear h5 h9 ho hs he hf hr hw ht
  obtain ⟨n, es, ar⟩ := r
  obtain ⟨dn, des, dar⟩ := d
  change ACall _ _ [tG ⟨n, es⟩] _ at f2
  change ACall _ _ [tG ⟨n, es⟩, _] _ at f3
  simp only [tR] at hD f1
  refine ACall.of_body Tryz.func10 rfl (by kernel_rfl) ?_
  simp only [entry, Tryz.ntmps10, tR, tints]
  refine zU ?_
  refine zR (zc @iRows_len (zc @htI trivial)) (zc f1 (zc f2 (zc f3 (zc hD (zc hA trivial))))) trivial ?_
  simp [Rets, aret, Blk.cells, ty, Tryz.results10, ares, toT1, toT, borrow, borrow0, capCell, toTree0, tbool]
 ·obtain ⟨c, T⟩ := trL_of hf he h0 h12 ht
  have hsd := rsm_dual hf
  have hG := rGenus_ok r hs
  rw [if_neg (fun h => h he), he] at hG
  have hcz : cotE r t = 0 := by unfold cotE; rw [if_neg (by omega), if_neg (by omega)]; exact h0
  have hC := rCotree_ok r hs t (by omega)
  rw [T.cot, hcz] at hC
  have hnp := (checkG_zero.1 ho.c).1
  have hn : r.g.n = ((r.n.toNat : Nat) : Int) := by have : 1 ≤ r.n := hnp.1; show r.n = _; omega
  have hZ := GenusR_ok r.g r.n.toNat ho.c hn (by have := hs.es; show r.es.length < _; omega)
  have hcn := ho.conn
  rw [conn_parts ho.c hn, decide_eq_true_eq] at hcn
  have hcn2 : ncls r.n.toNat (Conn (endsL r.es)) = 1 := hcn
  have hpn := parts_ncls ho.c hn
  have hZ2 : ((endsL r.g.es).length : Int) - (r.n.toNat : Nat) + (partsN r.g.es r.n.toNat r.n.toNat : Nat) = (c.length : Int) := by
   rw [hpn, T.len]
   show ((endsL r.es).length : Int) - (r.n.toNat : Nat) + (ncls r.n.toNat (Conn (endsL r.es)) : Nat) = _
   rw [hcn2]
   have : 1 ≤ r.n := hnp.1
   omega
  rw [hZ2] at hZ
  have hjr : joinedE r.g = 0 := by
   unfold joinedE
   rw [if_neg (by have := ho.c; omega), if_pos ho.conn]
  have hN1 := tCount_ok r.g hs.es T.sm.1
  rw [hjr, if_neg (by simp)] at hN1
  have hN2 := tCount_ok (dualD r).g hsd.es T.sm.2
  have hcl : c.length < 2 ^ 40 := by
   have h7 := T.len
   have h8 : 1 ≤ r.n := hnp.1
   omega
  have hk := tCheck_ok (dualD r).g c hsd.es hcl
  have hgn := (euler_law ho).2.1
  have hfin : ¬ 0 < genusR r → ACall Tryz.prog 44 [tG (dualD r).g] (.tup [tint ((treesG r.g).length : Nat), tint 0]) ∧ ACall Tryz.prog 45 [tG (dualD r).g, tints c] (tint 0) := fun hg => by
   obtain ⟨q1, q2, q3⟩ := T.flat (by omega)
   rw [q2, if_neg (by simp), ← q1] at hN2
   rw [q3] at hk
   exact ⟨hN2, hk⟩
  rw [h0] at hD
  clear hk hN2 hZ2 hpn hcn2 hcn hcz T h12 h9 ht hw ho he hf hr hgn hjr
  generalize genusR r = gr at *
  generalize (treesG r.g).length = m at *
  generalize dualN r = dN at *
  generalize dualD r = d at *
  obtain ⟨n, es, ar⟩ := r
  obtain ⟨dn, des, dar⟩ := d
  exact Trees_walk n es ar t c dn des dar dN gr m f1 f2 htl hcl f3 hA hD hG hC hZ hN1 hfin
end Go.Proofs.YtfkegnhpihoncaaGreat
