/- A part of the proof: contracts of functions of the program, and plain lemmas. -/
import Derived.Test.YtfkegnhpihoncaaGreatPart42
import Derived.Test.YtfkegnhpihoncaaGreatPart36
import Derived.Test.YtfkegnhpihoncaaGreatPart21
import Derived.Test.YtfkegnhpihoncaaGreatLayerC
import Derived.Test.YtfkegnhpihoncaaGreatPart32
set_option linter.all false
namespace Go.Proofs.YtfkegnhpihoncaaGreat
open Go.Sp
set_option linter.unusedSimpArgs false
set_option linter.unusedVariables false
set_option maxHeartbeats 4000000
set_option maxRecDepth 100000
def ofI (F : List (List Int)) (x : Int) : Int :=
 match F.findIdx? (fun l => decide (x ∈ l)) with
 | some i => i
 | none => -1
theorem ofI_hit {F : List (List Int)} {x : Int} {i : Nat} {l : List Int} (h : ∀ k m, k < i → F[k]? = some m → x ∉ m) (hl : F[i]? = some l) (hx : x ∈ l) : ofI F x = i := by
 obtain ⟨hi, e⟩ := List.getElem?_eq_some_iff.1 hl
 have : F.findIdx? (fun l => decide (x ∈ l)) = some i := by
  rw [List.findIdx?_eq_some_iff_getElem]
  refine ⟨hi, by rw [e]; simpa using hx, fun j hj => ?_⟩
  have := h j _ hj (List.getElem?_eq_getElem (by omega))
  simpa using this
 unfold ofI
 rw [this]
theorem ofI_none {F : List (List Int)} {x : Int} (h : ∀ k m, k < F.length → F[k]? = some m → x ∉ m) : ofI F x = -1 := by
 have : F.findIdx? (fun l => decide (x ∈ l)) = none := by
  rw [List.findIdx?_eq_none_iff]
  intro m hm
  obtain ⟨k, hk, rfl⟩ := List.mem_iff_getElem.1 hm
  exact decide_eq_false (h k _ hk (List.getElem?_eq_getElem hk))
 unfold ofI
 rw [this]
theorem refOf_ok (F : List (List Int)) (x : Int) (hF : F.length < 2 ^ 30) (hl : ∀ l, l ∈ F → l.length < 2 ^ 40) : ACall Tryz.prog 123 [tlists F, tint x] (tint (ofI F x)) := by
 refine ACall.of_body Tryz.func123 rfl (by kernel_rfl) ?_
 simp only [entry, Tryz.ntmps123, tlists, tint]
 refine zU ?_
 refine zR trivial trivial trivial ?_
 refine AWp.loopS (α:=Nat) 19 (fun i=>[(0,.c (.slice (llRows F) .none)),(1,.c (.int .i64 x)),(5,.c (.int .i64 (i : Int)))]) (fun i=>[]) (fun i=>i ≤ F.length ∧ ∀ k m, k < i → F[k]? = some m → x ∉ m) (fun i=>F.length - i) (0) (hk:=Weak.headL 0 19 [0, 1, 5] zW) (h0:=?_) (round:=fun i hI=>?_)
 ·exact ⟨Nat.zero_le _, fun k m hk => absurd hk (Nat.not_lt_zero _)⟩
 ·obtain ⟨hi, hI2⟩ := hI
  by_cases hlt : i < F.length
  ·have hltI : (i : Int) < (F.length : Int) := by omega
   have e0 := List.getElem?_eq_getElem hlt
   have e1 := llRows_get e0
   have hH := Holds_ok F[i] x (hl _ (List.getElem_mem hlt))
   generalize F[i] = l at *
   by_cases hx : x ∈ l
   ·rw [decide_eq_true hx] at hH
    have e := ofI_hit hI2 e0 hx
    rw [e]
    refine zR (zc @hltI (zc @llRows_len (zc @e1 trivial))) (zc hH trivial) trivial ?_
    simp [Rets, aret, Blk.cells, ty, Tryz.results123, ares, toT1, toT, borrow, borrow0, capCell, toTree0, tint]
   ·rw [decide_eq_false hx] at hH
    refine zR (zc @hltI (zc @llRows_len (zc @e1 trivial))) (zc hH trivial) trivial ?_
    refine ⟨i + 1,Weak.headN 0 19 [0, 1, 5] zW,?_,?_⟩
    ·refine ⟨hlt, fun k m hk hm => ?_⟩
     by_cases e : k = i
     ·subst e; rw [e0] at hm; cases hm; exact hx
     ·exact hI2 k m (by omega) hm
    ·omega
  ·have ei : i = F.length := by omega
   subst ei
   have hnl : ¬ ((F.length : Int) < (F.length : Int)) := by omega
   rw [ofI_none hI2]
   refine zR (zc @hnl (zc @llRows_len trivial)) trivial trivial ?_
   simp [Rets, aret, Blk.cells, ty, Tryz.results123, ares, toT1, toT, borrow, borrow0, capCell, toTree0, tint]
theorem ofI_of {r : R} {x : Nat} (hx : x < 2 * (endsL r.es).length) : ofI (facesI r) (x : Int) = ofF r x := by
 have hF : facesI r = (facesN (fR (endsL r.es) r.ar) (2 * (endsL r.es).length) (2 * (endsL r.es).length)).map natI := by
  unfold facesI facesR
  rw [if_neg (by omega)]
 unfold ofI ofF ofN
 rw [hF, List.findIdx?_map]
 have e : ((fun l => decide ((x : Int) ∈ l)) ∘ natI) = fun l => decide (x ∈ l) := by
  funext l
  rw [Bool.eq_iff_iff, decide_eq_true_eq]
  show decide ((x : Int) ∈ natI l) = true ↔ _
  rw [decide_eq_true_eq]
  unfold natI
  rw [List.mem_map]
  constructor
  ·rintro ⟨a, ha, e⟩
   have : a = x := by omega
   subst this; exact ha
  ·exact fun h => ⟨x, h, rfl⟩
 rw [e]
 cases (facesN (fR (endsL r.es) r.ar) (2 * (endsL r.es).length) (2 * (endsL r.es).length)).findIdx? (fun l => decide (x ∈ l)) <;> rfl
theorem refDualHalf_ok (F : List (List Int)) (O Nn : List Int) (x : Nat) (hF : F.length < 2 ^ 20) (hl : ∀ l, l ∈ F → l.length < 2 ^ 40) (hx : x < 2 ^ 30) (hN : x / 2 < Nn.length) (hNr : ∀ v, v ∈ Nn → 0 ≤ v ∧ v ≤ 2000)
  (h1 : ofI F (x : Int) = O.getD x 0) (h2 : ofI F (oppH x : Nat) = O.getD (oppH x) 0) : ACall Tryz.prog 125 [tlists F, tints Nn, tint (x : Int)] (tint (dualH O Nn (x : Int))) := by
 have c1 := refOf_ok F (x : Int) (by omega) hl
 have c2 := refOf_ok F (oppH x : Nat) (by omega) hl
 have c3 := Opposite_ok x (by omega)
 rw [h1] at c1
 rw [h2] at c2
 unfold dualH
 rw [Int.toNat_natCast]
 have e0 := List.getElem?_eq_getElem hN
 have e1 := iRows_get e0
 have hd := hNr _ (List.getElem_mem hN)
 rw [List.getD_eq_getElem?_getD (l := Nn), e0, Option.getD_some]
 generalize Nn[x / 2] = d at *
 generalize O.getD x 0 = a at *
 generalize O.getD (oppH x) 0 = b at *
 generalize hy : oppH x = y at *
 have hNI : ((x / 2 : Nat) : Int) < (Nn.length : Int) := by omega
 have hm : x % 2 = 0 ∨ x % 2 = 1 := by omega
 clear h1 h2 hy
 refine ACall.of_body Tryz.func125 rfl (by kernel_rfl) ?_
 simp only [entry, Tryz.ntmps125, tlists, tint, tints]
 refine zU ?_
 by_cases p1 : a < b
 ·rw [if_neg (by omega), Int.add_zero]
  refine zR (zc @tdiv2 (zc @tmod2 (zc @hNI (zc @iRows_len (zc @e1 (zc @p1 trivial)))))) (zc c1 (zc c2 (zc c3 trivial))) trivial ?_
  simp [Rets, aret, Blk.cells, ty, Tryz.results125, ares, toT1, toT, borrow, borrow0, capCell, toTree0, tint]
 ·by_cases p2 : a = b
  ·subst p2
   rcases hm with hm | hm
   ·rw [if_neg (by omega), Int.add_zero]
    refine zR (zc @tdiv2 (zc @tmod2 (zc @hNI (zc @iRows_len (zc @e1 (zc @p1 (zc @hm trivial))))))) (zc c1 (zc c2 (zc c3 trivial))) trivial ?_
    simp [Rets, aret, Blk.cells, ty, Tryz.results125, ares, toT1, toT, borrow, borrow0, capCell, toTree0, tint]
   ·rw [if_pos (by omega)]
    refine zR (zc @tdiv2 (zc @tmod2 (zc @hNI (zc @iRows_len (zc @e1 (zc @p1 (zc @hm trivial))))))) (zc c1 (zc c2 (zc c3 trivial))) trivial ?_
    simp [Rets, aret, Blk.cells, ty, Tryz.results125, ares, toT1, toT, borrow, borrow0, capCell, toTree0, tint]
  ·rw [if_pos (by omega)]
   refine zR (zc @tdiv2 (zc @tmod2 (zc @hNI (zc @iRows_len (zc @e1 (zc @p1 (zc @p2 trivial))))))) (zc c1 (zc c2 (zc c3 trivial))) trivial ?_
   simp [Rets, aret, Blk.cells, ty, Tryz.results125, ares, toT1, toT, borrow, borrow0, capCell, toTree0, tint]
end Go.Proofs.YtfkegnhpihoncaaGreat
set_option linter.all false
namespace Go.Proofs.YtfkegnhpihoncaaGreat
open Go.Sp
set_option linter.unusedSimpArgs false
set_option linter.unusedVariables false
set_option maxHeartbeats 4000000
set_option maxRecDepth 100000
theorem refTurned_ok (l : List Int) (hl : l.length < 2 ^ 30) : ACall Tryz.prog 62 [tints l] (tints (turnL l)) := by
 refine ACall.of_body Tryz.func62 rfl (by kernel_rfl) ?_
 simp only [entry, Tryz.ntmps62, tints]
 refine zU ?_
 refine zR trivial trivial trivial ?_
 refine AWp.loopS (α:=Nat) 30 (fun k=>[(0,.c (.slice (iRows l) .none)),(3,.c (.int .i64 ((leastGo l k : Nat) : Int))),(4,.c (.int .i64 ((k : Int) + 1)))]) (fun k=>[]) (fun k=>k = 0 ∨ k + 1 ≤ l.length) (fun k=>l.length - k) (0) (hk:=Weak.headL 0 30 [0, 3, 4] zW) (h0:=?_) (round:=fun k hI=>?_)
 ·exact .inl rfl
 ·have hk := hI
  clear hI
  obtain ⟨s1, _, _⟩ := leastGo_spec l k
  by_cases hlt : k + 1 < l.length
  ·have hltI : (k : Int) + 1 < (l.length : Int) := by omega
   have e0 := List.getElem?_eq_getElem hlt
   have e1 := iRows_get e0
   have f0 := List.getElem?_eq_getElem (show leastGo l k < l.length by omega)
   have f1 := iRows_get f0
   have hgo : leastGo l (k + 1) = if l.getD (k + 1) 0 < l.getD (leastGo l k) 0 then k + 1 else leastGo l k := rfl
   rw [List.getD_eq_getElem?_getD, List.getD_eq_getElem?_getD, e0, f0, Option.getD_some, Option.getD_some] at hgo
   generalize l[k + 1] = x at *
   generalize l[leastGo l k] = y at *
   have ht : ((k : Int) + 1).toNat = k + 1 := by omega
   have hll : (leastGo l k : Int) < (l.length : Int) := by omega
   by_cases hxy : x < y
   ·rw [if_pos hxy] at hgo
    generalize leastGo l k = z at *
    refine zR (zc @hltI (zc @iRows_len (zc @e1 (zc @f1 (zc @ht (zc @hll (zc @hxy trivial))))))) trivial trivial ?_
    refine ⟨k + 1,Weak.headF 0 30 [0, 3, 4] (zc @hgo trivial) zW,?_,?_⟩
    ·exact .inr (by omega)
    ·omega
   ·rw [if_neg hxy] at hgo
    generalize leastGo l k = z at *
    refine zR (zc @hltI (zc @iRows_len (zc @e1 (zc @f1 (zc @ht (zc @hll (zc @hxy trivial))))))) trivial trivial ?_
    refine ⟨k + 1,Weak.headF 0 30 [0, 3, 4] (zc @hgo trivial) zW,?_,?_⟩
    ·exact .inr (by omega)
    ·omega
  ·have hnl : ¬ ((k : Int) + 1 < (l.length : Int)) := by omega
   have ek : k = l.length - 1 := by omega
   have el : leastGo l k = leastN l := by rw [ek]; rfl
   have hln : leastN l ≤ l.length := by omega
   have hnI : (leastN l : Int) ≤ (l.length : Int) := by omega
   rw [el]
   have hd : (iRows l).drop (leastN l) = iRows (l.drop (leastN l)) := iRows_drop l _
   have ht : (iRows l).take (leastN l) = iRows (l.take (leastN l)) := iRows_take l _
   have hta : (iRows l).take l.length = iRows l := List.take_of_length_le (by rw [iRows_len]; exact Nat.le_refl _)
   have hcat : iRows (l.drop (leastN l)) ++ iRows (l.take (leastN l)) = iRows (turnL l) := by simp [iRows, turnL]
   have hlA : (l.drop (leastN l)).length ≤ l.length := by rw [List.length_drop]; omega
   have hlB : (l.take (leastN l)).length ≤ l.length := by rw [List.length_take]; omega
   generalize turnL l = T at *
   generalize leastN l = m at *
   generalize hA : l.drop m = A at *
   generalize hB : l.take m = B at *
   refine zRc2 (zc @hnl (zc @iRows_len (zc @Int.toNat_zero (zc @hnI (zc @hd (zc @ht (zc @hta (zc @hcat trivial)))))))) trivial @iRows_k' ?_ ?_
   ·
    simp [Rets, aret, Blk.cells, ty, Tryz.results62, ares, toT1, toT, borrow, borrow0, capCell, toTree0, tints]
   ·
    simp [Rets, aret, Blk.cells, ty, Tryz.results62, ares, toT1, toT, borrow, borrow0, capCell, toTree0, tints]
end Go.Proofs.YtfkegnhpihoncaaGreat
set_option linter.all false
namespace Go.Proofs.YtfkegnhpihoncaaGreat
open Go.Sp
set_option linter.unusedSimpArgs false
set_option linter.unusedVariables false
theorem vert_half {r : R} (hr : ROk r) (h0 : 0 < (endsL r.es).length) {v : Nat} (hv : v < r.n.toNat) : ∃ x, x < 2 * (endsL r.es).length ∧ gR (endsL r.es) x = v := by
 have hem := emb_of hr
 have hk : r.g.n = ((r.n.toNat : Nat) : Int) := by have h12 : 1 ≤ r.n := (checkG_zero.1 hr.c).1.1; show r.n = _; omega
 have hcn := hr.conn
 rw [conn_parts hr.c hk, decide_eq_true_eq] at hcn
 have hc := ncls_one (conn_eqv _ _) hcn (hem.lt 0 (by omega)) hv
 have get : ∀ p, p ∈ endsL r.es → ∃ k, k < (endsL r.es).length ∧ p = (((gR (endsL r.es) (2 * k) : Nat) : Int), ((gR (endsL r.es) (2 * k + 1) : Nat) : Int)) := fun p hp => by
  obtain ⟨k, hk, e⟩ := List.mem_iff_getElem.1 hp
  refine ⟨k, hk, ?_⟩
  have := hem.ends k hk
  rw [List.getElem?_eq_getElem hk, e] at this
  exact Option.some.inj this
 cases hc with
 | refl => exact ⟨0, by omega, rfl⟩
 | @step b c _ hs =>
  rcases hs with hs | hs
  ·obtain ⟨k, hk, e⟩ := get _ hs
   have := congrArg Prod.snd e
   simp only at this
   exact ⟨2 * k + 1, by omega, by omega⟩
  ·obtain ⟨k, hk, e⟩ := get _ hs
   have := congrArg Prod.fst e
   simp only at this
   exact ⟨2 * k, by omega, by omega⟩
section
variable {r : R}
theorem drow_get {m p : Nat} (hf : faceF (fR (endsL r.es) r.ar) (2 * (endsL r.es).length) m = (List.range p).map fun i => it (fR (endsL r.es) r.ar) i m) {k : Nat} (hk : k < p) :
  (natI (drow r m))[k]? = some ((dD r (it (fR (endsL r.es) r.ar) k m) : Nat) : Int) := by
 unfold natI drow; rw [hf, List.map_map, List.map_map, List.getElem?_map, List.getElem?_range hk]; rfl
theorem drow_len {m p : Nat} (hf : faceF (fR (endsL r.es) r.ar) (2 * (endsL r.es).length) m = (List.range p).map fun i => it (fR (endsL r.es) r.ar) i m) : (natI (drow r m)).length = p := by
 unfold natI drow; rw [hf]; simp
theorem Rib.dnext (h : Rib r) {x : Nat} (hx : x < 2 * (endsL r.es).length) : sR (endsL (dualG r).es) (dualG r).ar (dD r x) = dD r (fR (endsL r.es) r.ar x) := by
 have hp := h.ok.perm
 obtain ⟨i, m, e1, e2, e3⟩ := of_spec hp hx
 have hm := lead_at e2
 have hat := h.at_ hx
 obtain ⟨p, p1, p2, p3, p4, p5⟩ := face_spec hp hm.1
 rw [p5] at e3
 obtain ⟨j, hj, rfl⟩ := List.mem_map.1 e3
 have hj := List.mem_range.1 hj
 have hl := drow_len p5
 have hnd := drow_nodup h hm.1
 have hn := nextI_of hnd (drow_get p5 hj) (by rw [hl]; exact drow_get p5 (Nat.mod_lt (j + 1) (by omega)))
 have hit : it (fR (endsL r.es) r.ar) ((j + 1) % p) m = fR (endsL r.es) r.ar (it (fR (endsL r.es) r.ar) j m) := by rw [← it_mod p1 p3 (j + 1)]; rfl
 rw [hit] at hn
 have hrow : (dualAr r)[i]? = some (turnL (natI (drow r m))) := by rw [h.rows, List.getElem?_map, e2]; rfl
 have hmem : ((dD r (it (fR (endsL r.es) r.ar) j m) : Nat) : Int) ∈ natI (drow r m) := List.mem_of_getElem? (drow_get p5 hj)
 have hrot := nextI_rot hnd (leastN_le (natI (drow r m))) hmem
 unfold sR nextR
 rw [hat]
 show (nextI ((dualAr r).getD (ofF r _).toNat []) _).toNat = _
 unfold ofF
 rw [e1, Int.toNat_natCast, List.getD_eq_getElem?_getD, hrow, Option.getD_some]
 show (nextI (turnL (natI (drow r m))) _).toNat = _
 unfold turnL
 rw [hrot, hn]; rfl
theorem Rib.dface (h : Rib r) {x : Nat} (hx : x < 2 * (endsL r.es).length) : fR (endsL (dualG r).es) (dualG r).ar (dD r x) = dD r (sR (endsL r.es) r.ar x) := by
 have h1 := h.dnext (oppH_lt hx)
 have e : fR (endsL r.es) r.ar (oppH x) = sR (endsL r.es) r.ar x := by unfold fR sR; rw [oppH_opp]
 rw [e, dopp] at h1
 exact h1
theorem Rib.dface_it (h : Rib r) {x : Nat} (hx : x < 2 * (endsL r.es).length) : ∀ k, it (fR (endsL (dualG r).es) (dualG r).ar) k (dD r x) = dD r (it (sR (endsL r.es) r.ar) k x)
 | 0 => rfl
 | k + 1 => by
  show fR _ _ (it _ k (dD r x)) = dD r (sR _ _ (it _ k x))
  rw [h.dface_it hx k, h.dface ((emb_of h.ok).perm.it_lt hx k)]
theorem Rib.inv (h : Rib r) : ∃ I : Nat → Nat, ∀ y, y < 2 * (endsL r.es).length → I y < 2 * (endsL r.es).length ∧ dD r (I y) = y := by
 classical
 refine ⟨fun y => if hy : y < 2 * (endsL r.es).length then Classical.choose (h.donto hy) else 0, fun y hy => ?_⟩
 simp only [dif_pos hy]
 exact Classical.choose_spec (h.donto hy)
theorem keep_it (hr : ROk r) {x : Nat} (hx : x < 2 * (endsL r.es).length) : ∀ k, gR (endsL r.es) (it (sR (endsL r.es) r.ar) k x) = gR (endsL r.es) x
 | 0 => rfl
 | k + 1 => by
  show gR _ (sR _ _ (it _ k x)) = _
  rw [(emb_of hr).keep _ ((emb_of hr).perm.it_lt hx k)]; exact keep_it hr hx k
theorem Rib.dcyc (h : Rib r) {x y : Nat} (hx : x < 2 * (endsL r.es).length) (hy : y < 2 * (endsL r.es).length) : cycR (fR (endsL (dualG r).es) (dualG r).ar) (dD r x) (dD r y) ↔ gR (endsL r.es) x = gR (endsL r.es) y := by
 constructor
 ·rintro ⟨k, hk⟩
  rw [h.dface_it hx] at hk
  have := h.dinj hy ((emb_of h.ok).perm.it_lt hx k) hk
  rw [this, keep_it h.ok hx]
 ·intro hg
  obtain ⟨k, rfl⟩ := same_cyc h.ok hx hy hg
  exact ⟨k, (h.dface_it hx k).symm⟩
theorem Rib.dperm (h : Rib r) : PermN (2 * (endsL r.es).length) (fR (endsL (dualG r).es) (dualG r).ar) := by
 have := h.dual_ok.perm
 rwa [h.elen] at this
theorem Rib.dflen (h : Rib r) : (facesR (dualG r)).length = r.n.toNat := by
 obtain ⟨I, hI⟩ := h.inv
 have hem := emb_of h.ok
 have hf : facesR (dualG r) = facesN (fR (endsL (dualG r).es) (dualG r).ar) (2 * (endsL r.es).length) (2 * (endsL r.es).length) := by
  unfold facesR
  have := h.pos
  rw [if_neg (by rw [h.elen]; omega), h.elen]
 rw [hf, faces_ncls h.dperm]
 rw [ncls_congr (S := fun y z => gR (endsL r.es) (I y) = gR (endsL r.es) (I z))]
 ·refine ncls_onto (fun y => gR (endsL r.es) (I y)) (fun y hy => hem.lt _ (hI y hy).1) fun v hv => ?_
  obtain ⟨x, hx, rfl⟩ := vert_half h.ok h.pos hv
  refine ⟨dD r x, h.dlt hx, ?_⟩
  have := hI _ (h.dlt hx)
  rw [h.dinj this.1 hx this.2]
 ·intro y z hy hz
  have h1 := hI y hy
  have h2 := hI z hz
  have := h.dcyc h1.1 h2.1
  rw [h1.2, h2.2] at this
  exact this
theorem Rib.npos (h : Rib r) : 1 ≤ r.n ∧ r.n ≤ 12 := (checkG_zero.1 h.ok.c).1
theorem Rib.dual (h : Rib r) : Rib (dualG r) := ⟨h.dual_ok, by rw [h.elen]; exact h.pos, by rw [h.elen]; exact h.few, by rw [h.dflen]; have := h.npos; omega⟩
theorem ext_get {l m : List Int} (h1 : l.length = m.length) (h : ∀ i, i < l.length → l[i]? = m[i]?) : l = m := by
 apply List.ext_getElem?
 intro i
 by_cases hi : i < l.length
 ·exact h i hi
 ·rw [List.getElem?_eq_none (by omega), List.getElem?_eq_none (by omega)]
theorem ok_head {l : List Int} {L : List (Int × Int)} {v : Int} {k : Nat} (h : LOk l (ownL L v k)) : ∀ x, x ∈ l → l.getD 0 0 ≤ x := fun x hx => by
 rcases h.hd with e | e
 ·rw [e] at hx; cases hx
 ·rw [e]; exact sorted_head (ownL_sorted _ _ _) (h.sub x hx)
theorem Rib.twice (h : Rib r) {γ : Nat → Nat} (hγ : ∀ x, x < 2 * (endsL r.es).length → γ (dD (dualG r) (dD r x)) = x) :
  ((dualG (dualG r)).ar.map fun l => turnL (l.map fun z => ((γ z.toNat : Nat) : Int))).Perm r.ar := by
 obtain ⟨I, hI⟩ := h.inv
 have hd := h.dual
 have hem := emb_of h.ok
 have hp := h.dperm
 have hrl : (r.ar.length : Int) = r.n := h.ok.len
 have hn := h.npos
 have hN := h.elen
 have hrow : (dualG (dualG r)).ar = (leadsL (fR (endsL (dualG r).es) (dualG r).ar) (2 * (endsL r.es).length) (2 * (endsL r.es).length)).map fun m => turnL (natI (drow (dualG r) m)) := by
  have := hd.rows
  rw [hN] at this
  exact this
 rw [hrow, List.map_map]
 have key : ∀ m, m ∈ leadsL (fR (endsL (dualG r).es) (dualG r).ar) (2 * (endsL r.es).length) (2 * (endsL r.es).length) → turnL ((turnL (natI (drow (dualG r) m))).map fun z => ((γ z.toNat : Nat) : Int)) = r.ar.getD (gR (endsL r.es) (I m)) [] := fun m hm => by
  have hml := (leadsL_mem.1 hm).1
  obtain ⟨hx, ex⟩ := hI m hml
  generalize I m = x at *
  obtain ⟨l, q1, q2, q3, q4⟩ := h.ok.row hx
  have hg : (atL (endsL r.es) x).toNat = gR (endsL r.es) x := rfl
  rw [hg] at q2
  rw [q2]
  have hlp : 0 < l.length := List.length_pos_of_mem q4
  have ri := row_iter q3.nd (s := sR (endsL r.es) r.ar) (fun z hz => by
   have hz2 := ownL_mem.1 (q3.sub _ hz)
   rw [Int.toNat_natCast] at hz2
   have hzl : z < 2 * (endsL r.es).length := by omega
   have hzn := h.ok.next hzl
   have : nextR (endsL r.es) r.ar z = nextI l (z : Int) := by
    unfold nextR
    rw [hz2.2.2]
    show nextI (r.ar.getD (gR (endsL r.es) x) []) _ = _
    rw [q2]
   unfold sR
   rw [← this]; omega) q4
  have hjl := (getD_idx q4).1
  generalize hj : l.idxOf (x : Int) = j at *
  obtain ⟨p, p1, p2, p3, p4, p5⟩ := face_spec hp hml
  rw [← hN] at p5
  have hXl := drow_len p5
  have hXg := fun k (hk : k < p) => drow_get p5 hk
  have hpl : p = l.length := by
   have h1 := ri l.length
   have h2 := ri p
   have h0 := ri 0
   rw [Nat.add_mod_right, Nat.mod_eq_of_lt hjl] at h1
   rw [Nat.add_zero, Nat.mod_eq_of_lt hjl] at h0
   have e1 : it (sR (endsL r.es) r.ar) l.length x = x := by
    rw [h0] at h1
    have := Option.some.inj h1
    have h00 : it (sR (endsL r.es) r.ar) 0 x = x := rfl
    rw [h00] at this; omega
   have e2 : it (sR (endsL r.es) r.ar) p x = x := by
    have := h.dface_it hx p
    rw [ex, p3, ← ex] at this
    exact (h.dinj hx (hem.perm.it_lt hx p) this).symm
   have a1 : p ≤ l.length := Nat.le_of_not_lt fun hlt => p4 l.length (by omega) hlt (by
    have := h.dface_it hx l.length
    rw [ex, e1, ex] at this; exact this)
   rw [e2] at h2
   have h00 : it (sR (endsL r.es) r.ar) 0 x = x := rfl
   rw [h00] at h0
   obtain ⟨b1, c1⟩ := List.getElem?_eq_some_iff.1 h0
   obtain ⟨b2, c2⟩ := List.getElem?_eq_some_iff.1 h2
   have hjj := nodup_at q3.nd b2 b1 (by rw [c1, c2])
   have a2 : ¬ p < l.length := fun hlt => by
    by_cases hc : j + p < l.length
    ·rw [Nat.mod_eq_of_lt hc] at hjj; omega
    ·rw [Nat.mod_eq_sub_mod (by omega), Nat.mod_eq_of_lt (by omega)] at hjj; omega
   omega
  have hk := leastN_le (natI (drow (dualG r) m))
  rw [hXl] at hk
  generalize leastN (natI (drow (dualG r) m)) = k at *
  have hturn : turnL (natI (drow (dualG r) m)) = (natI (drow (dualG r) m)).drop (leastN (natI (drow (dualG r) m))) ++ (natI (drow (dualG r) m)).take (leastN (natI (drow (dualG r) m))) := rfl
  generalize hlk : leastN (natI (drow (dualG r) m)) = k2 at *
  have hk2 : k2 ≤ p := by rw [← hlk, ← hXl]; exact leastN_le _
  have hM : (turnL (natI (drow (dualG r) m))).map (fun z => ((γ z.toNat : Nat) : Int)) = l.drop ((j + k2) % l.length) ++ l.take ((j + k2) % l.length) := by
   have hJ : (j + k2) % l.length ≤ l.length := Nat.le_of_lt (Nat.mod_lt _ hlp)
   have hl1 : ((turnL (natI (drow (dualG r) m))).map (fun z => ((γ z.toNat : Nat) : Int))).length = l.length := by rw [List.length_map, turnL_len, hXl, hpl]
   refine ext_get (by rw [hl1, List.length_append, List.length_drop, List.length_take]; omega) fun i hi => ?_
   rw [hl1] at hi
   rw [rot_get hJ hi, List.getElem?_map, hturn, rot_get (by rw [hXl]; exact hk2) (by rw [hXl]; omega), hXl, hXg _ (Nat.mod_lt _ (by omega)), Option.map_some]
   have e3 := h.dface_it hx ((i + k2) % p)
   rw [ex] at e3
   rw [e3, Int.toNat_natCast, hγ _ (hem.perm.it_lt hx _), ← ri ((i + k2) % p), hpl]
   congr 1
   rw [Nat.add_mod_mod, Nat.add_mod_mod]
   congr 1
   omega
  rw [hM]
  exact turn_rot q3.nd (ok_head q3) (Nat.le_of_lt (Nat.mod_lt _ hlp))
 have e1 : (leadsL (fR (endsL (dualG r).es) (dualG r).ar) (2 * (endsL r.es).length) (2 * (endsL r.es).length)).map ((fun l => turnL (l.map fun z => ((γ z.toNat : Nat) : Int))) ∘ fun m => turnL (natI (drow (dualG r) m))) =
   ((leadsL (fR (endsL (dualG r).es) (dualG r).ar) (2 * (endsL r.es).length) (2 * (endsL r.es).length)).map fun m => gR (endsL r.es) (I m)).map fun v => r.ar.getD v [] := by
  rw [List.map_map]
  exact List.map_congr_left fun m hm => key m hm
 rw [e1]
 have e2 : r.ar = (List.range r.n.toNat).map fun v => r.ar.getD v [] := by
  apply List.ext_getElem?
  intro i
  rw [List.getElem?_map]
  by_cases hi : i < r.ar.length
  ·rw [List.getElem?_range (by omega), Option.map_some, List.getD_eq_getElem?_getD, List.getElem?_eq_getElem hi]; rfl
  ·rw [List.getElem?_eq_none (by omega), List.getElem?_eq_none (by simp; omega)]; rfl
 refine (List.Perm.map _ ?_).trans (by rw [← e2])
 refine (List.perm_ext_iff_of_nodup ?_ List.nodup_range).2 fun v => ?_
 ·rw [List.Nodup, List.pairwise_map]
  refine List.Pairwise.imp_of_mem (fun {a b} ha hb hne e => hne ?_) (leads_nodup (f := fR (endsL (dualG r).es) (dualG r).ar) (N := 2 * (endsL r.es).length))
  have ha' := leadsL_mem.1 ha
  have hb' := leadsL_mem.1 hb
  have ia := hI a ha'.1
  have ib := hI b hb'.1
  have hc := (h.dcyc ia.1 ib.1).2 e
  rw [ia.2, ib.2] at hc
  exact lead_unique hp ha'.1 hb'.1 ha'.2 hb'.2 ((face_mem hp ha'.1).2 hc) (face_self _ _ _)
 ·rw [List.mem_range]
  constructor
  ·intro hv
   obtain ⟨m, hm, rfl⟩ := List.mem_map.1 hv
   exact hem.lt _ (hI m (leadsL_mem.1 hm).1).1
  ·intro hv
   obtain ⟨x, hx, rfl⟩ := vert_half h.ok h.pos hv
   obtain ⟨i, m, e1, e2, e3⟩ := of_spec hp (h.dlt hx)
   have hm := List.mem_of_getElem? e2
   have hml := (leadsL_mem.1 hm).1
   refine List.mem_map.2 ⟨m, hm, ?_⟩
   have im := hI m hml
   have hc := (face_mem hp hml).1 e3
   rw [← im.2] at hc
   exact (h.dcyc im.1 hx).1 hc
end
end Go.Proofs.YtfkegnhpihoncaaGreat
