/- A part of the proof. -/
import Derived.Test.YtfkegnhpihoncaaGreatPart42
import Derived.Test.YtfkegnhpihoncaaGreatLayerC
import Derived.Test.YtfkegnhpihoncaaGreatPart32
import Derived.Test.YtfkegnhpihoncaaGreatPart36
import Derived.Test.YtfkegnhpihoncaaGreatPart21
set_option linter.all false
set_option maxHeartbeats 4000000
set_option maxRecDepth 100000
namespace Go.Proofs.YtfkegnhpihoncaaGreat
open Go.Sp
theorem vert_half {r : R} (hr : ROk r) (h0 : 0 < (endsL r.es).length) {v : Nat} (hv : v < r.n.toNat) : ∃ x, x < 2 * (endsL r.es).length ∧ gR (endsL r.es) x = v := by
 have hem := emb_of hr
 have hk : r.g.n = ((r.n.toNat : Nat) : Int) := by have h12 : 1 ≤ r.n := (checkG_zero.1 hr.c).1.1; show r.n = _; omega
 have hcn := hr.conn
 rw [conn_parts hr.c hk, decide_eq_true_eq] at hcn
 have hc := ncls_one (conn_eqv _ _) hcn (hem.lt 0 (by omega)) hv
 have get : ∀ p, p ∈ endsL r.es → ∃ k, k < (endsL r.es).length ∧ p = (((gR (endsL r.es) (2 * k) : Nat) : Int), ((gR (endsL r.es) (2 * k + 1) : Nat) : Int)) := fun p hp => by
  obtain ⟨k, hk, e⟩ := List.mem_iff_getElem.1 hp
  refine ⟨k, hk, ?_⟩
  have := hem.ends k hk
  rw [List.getElem?_eq_getElem hk, e] at this
  exact Option.some.inj this
 cases hc with
 | refl => exact ⟨0, by omega, rfl⟩
 | @step b c _ hs =>
  rcases hs with hs | hs
  ·obtain ⟨k, hk, e⟩ := get _ hs
   have := congrArg Prod.snd e
   simp only at this
   exact ⟨2 * k + 1, by omega, by omega⟩
  ·obtain ⟨k, hk, e⟩ := get _ hs
   have := congrArg Prod.fst e
   simp only at this
   exact ⟨2 * k, by omega, by omega⟩
section
variable {r : R}
theorem drow_get {m p : Nat} (hf : faceF (fR (endsL r.es) r.ar) (2 * (endsL r.es).length) m = (List.range p).map fun i => it (fR (endsL r.es) r.ar) i m) {k : Nat} (hk : k < p) :
  (natI (drow r m))[k]? = some ((dD r (it (fR (endsL r.es) r.ar) k m) : Nat) : Int) := by
 unfold natI drow; rw [hf, List.map_map, List.map_map, List.getElem?_map, List.getElem?_range hk]; rfl
theorem drow_len {m p : Nat} (hf : faceF (fR (endsL r.es) r.ar) (2 * (endsL r.es).length) m = (List.range p).map fun i => it (fR (endsL r.es) r.ar) i m) : (natI (drow r m)).length = p := by
 unfold natI drow; rw [hf]; simp
theorem Rib.dnext (h : Rib r) {x : Nat} (hx : x < 2 * (endsL r.es).length) : sR (endsL (dualG r).es) (dualG r).ar (dD r x) = dD r (fR (endsL r.es) r.ar x) := by
 have hp := h.ok.perm
 obtain ⟨i, m, e1, e2, e3⟩ := of_spec hp hx
 have hm := lead_at e2
 have hat := h.at_ hx
 obtain ⟨p, p1, p2, p3, p4, p5⟩ := face_spec hp hm.1
 rw [p5] at e3
 obtain ⟨j, hj, rfl⟩ := List.mem_map.1 e3
 have hj := List.mem_range.1 hj
 have hl := drow_len p5
 have hnd := drow_nodup h hm.1
 have hn := nextI_of hnd (drow_get p5 hj) (by rw [hl]; exact drow_get p5 (Nat.mod_lt (j + 1) (by omega)))
 have hit : it (fR (endsL r.es) r.ar) ((j + 1) % p) m = fR (endsL r.es) r.ar (it (fR (endsL r.es) r.ar) j m) := by rw [← it_mod p1 p3 (j + 1)]; rfl
 rw [hit] at hn
 have hrow : (dualAr r)[i]? = some (turnL (natI (drow r m))) := by rw [h.rows, List.getElem?_map, e2]; rfl
 have hmem : ((dD r (it (fR (endsL r.es) r.ar) j m) : Nat) : Int) ∈ natI (drow r m) := List.mem_of_getElem? (drow_get p5 hj)
 have hrot := nextI_rot hnd (leastN_le (natI (drow r m))) hmem
 unfold sR nextR
 rw [hat]
 show (nextI ((dualAr r).getD (ofF r _).toNat []) _).toNat = _
 unfold ofF
 rw [e1, Int.toNat_natCast, List.getD_eq_getElem?_getD, hrow, Option.getD_some]
 show (nextI (turnL (natI (drow r m))) _).toNat = _
 unfold turnL
 rw [hrot, hn]; rfl
theorem Rib.dface (h : Rib r) {x : Nat} (hx : x < 2 * (endsL r.es).length) : fR (endsL (dualG r).es) (dualG r).ar (dD r x) = dD r (sR (endsL r.es) r.ar x) := by
 have h1 := h.dnext (oppH_lt hx)
 have e : fR (endsL r.es) r.ar (oppH x) = sR (endsL r.es) r.ar x := by unfold fR sR; rw [oppH_opp]
 rw [e, dopp] at h1
 exact h1
theorem Rib.dface_it (h : Rib r) {x : Nat} (hx : x < 2 * (endsL r.es).length) : ∀ k, it (fR (endsL (dualG r).es) (dualG r).ar) k (dD r x) = dD r (it (sR (endsL r.es) r.ar) k x)
 | 0 => rfl
 | k + 1 => by
  show fR _ _ (it _ k (dD r x)) = dD r (sR _ _ (it _ k x))
  rw [h.dface_it hx k, h.dface ((emb_of h.ok).perm.it_lt hx k)]
theorem Rib.inv (h : Rib r) : ∃ I : Nat → Nat, ∀ y, y < 2 * (endsL r.es).length → I y < 2 * (endsL r.es).length ∧ dD r (I y) = y := by
 classical
 refine ⟨fun y => if hy : y < 2 * (endsL r.es).length then Classical.choose (h.donto hy) else 0, fun y hy => ?_⟩
 simp only [dif_pos hy]
 exact Classical.choose_spec (h.donto hy)
theorem keep_it (hr : ROk r) {x : Nat} (hx : x < 2 * (endsL r.es).length) : ∀ k, gR (endsL r.es) (it (sR (endsL r.es) r.ar) k x) = gR (endsL r.es) x
 | 0 => rfl
 | k + 1 => by
  show gR _ (sR _ _ (it _ k x)) = _
  rw [(emb_of hr).keep _ ((emb_of hr).perm.it_lt hx k)]; exact keep_it hr hx k
theorem Rib.dcyc (h : Rib r) {x y : Nat} (hx : x < 2 * (endsL r.es).length) (hy : y < 2 * (endsL r.es).length) : cycR (fR (endsL (dualG r).es) (dualG r).ar) (dD r x) (dD r y) ↔ gR (endsL r.es) x = gR (endsL r.es) y := by
 constructor
 ·rintro ⟨k, hk⟩
  rw [h.dface_it hx] at hk
  have := h.dinj hy ((emb_of h.ok).perm.it_lt hx k) hk
  rw [this, keep_it h.ok hx]
 ·intro hg
  obtain ⟨k, rfl⟩ := same_cyc h.ok hx hy hg
  exact ⟨k, (h.dface_it hx k).symm⟩
theorem Rib.dperm (h : Rib r) : PermN (2 * (endsL r.es).length) (fR (endsL (dualG r).es) (dualG r).ar) := by
 have := h.dual_ok.perm
 rwa [h.elen] at this
theorem Rib.dflen (h : Rib r) : (facesR (dualG r)).length = r.n.toNat := by
 obtain ⟨I, hI⟩ := h.inv
 have hem := emb_of h.ok
 have hf : facesR (dualG r) = facesN (fR (endsL (dualG r).es) (dualG r).ar) (2 * (endsL r.es).length) (2 * (endsL r.es).length) := by
  unfold facesR
  have := h.pos
  rw [if_neg (by rw [h.elen]; omega), h.elen]
 rw [hf, faces_ncls h.dperm]
 rw [ncls_congr (S := fun y z => gR (endsL r.es) (I y) = gR (endsL r.es) (I z))]
 ·refine ncls_onto (fun y => gR (endsL r.es) (I y)) (fun y hy => hem.lt _ (hI y hy).1) fun v hv => ?_
  obtain ⟨x, hx, rfl⟩ := vert_half h.ok h.pos hv
  refine ⟨dD r x, h.dlt hx, ?_⟩
  have := hI _ (h.dlt hx)
  rw [h.dinj this.1 hx this.2]
 ·intro y z hy hz
  have h1 := hI y hy
  have h2 := hI z hz
  have := h.dcyc h1.1 h2.1
  rw [h1.2, h2.2] at this
  exact this
theorem Rib.npos (h : Rib r) : 1 ≤ r.n ∧ r.n ≤ 12 := (checkG_zero.1 h.ok.c).1
theorem Rib.dual (h : Rib r) : Rib (dualG r) := ⟨h.dual_ok, by rw [h.elen]; exact h.pos, by rw [h.elen]; exact h.few, by rw [h.dflen]; have := h.npos; omega⟩
end
end Go.Proofs.YtfkegnhpihoncaaGreat
