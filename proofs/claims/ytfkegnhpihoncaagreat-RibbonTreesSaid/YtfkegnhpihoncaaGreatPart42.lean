/- A part of the proof. -/
import Derived.Test.YtfkegnhpihoncaaGreatPart41
import Derived.Test.YtfkegnhpihoncaaGreatPart35
import Derived.Test.YtfkegnhpihoncaaGreatLayerC
import Derived.Test.YtfkegnhpihoncaaGreatPart36
import Derived.Test.YtfkegnhpihoncaaGreatPart40
import Derived.Test.YtfkegnhpihoncaaGreatPart28
import Derived.Test.YtfkegnhpihoncaaGreatLayerD
set_option linter.all false
set_option maxHeartbeats 4000000
set_option maxRecDepth 100000
namespace Go.Proofs.YtfkegnhpihoncaaGreat
open Go.Sp
noncomputable def dualG (r : R) : R := ⟨((facesR r).length : Nat), sortE (bagL (joinsR r)), dualAr r⟩
noncomputable def dD (r : R) (x : Nat) : Nat := dH (joinsR r) (ofF r) x
structure Rib (r : R) : Prop where
 ok : ROk r
 pos : 0 < (endsL r.es).length
 few : (endsL r.es).length ≤ 50
 fac : (facesR r).length ≤ 12
section
variable {r : R}
theorem Rib.fr (h : Rib r) : facesR r = facesN (fR (endsL r.es) r.ar) (2 * (endsL r.es).length) (2 * (endsL r.es).length) := by
 have := h.pos
 unfold facesR; rw [if_neg (by omega)]
theorem Rib.flen (h : Rib r) : (facesR r).length = (leadsL (fR (endsL r.es) r.ar) (2 * (endsL r.es).length) (2 * (endsL r.es).length)).length := by
 rw [h.fr]; unfold facesN; rw [List.length_map]
theorem Rib.fpos (h : Rib r) : 1 ≤ (facesR r).length := (euler_of h.ok).2.2
theorem Rib.of_bnd (h : Rib r) {x : Nat} (hx : x < 2 * (endsL r.es).length) : 0 ≤ ofF r x ∧ ofF r x < ((facesR r).length : Int) := by
 rw [h.fr]; exact Go.Proofs.YtfkegnhpihoncaaGreat.of_bnd h.ok.perm hx
theorem joins_at {e : Nat} (he : e < (endsL r.es).length) : (joinsR r)[e]? = some (ofF r (2 * e), ofF r (2 * e + 1)) := by simp [joinsR, he]
theorem Rib.joins_ok (h : Rib r) : ∀ p, p ∈ joinsR r → okP ((facesR r).length : Nat) p := fun p hp => by
 obtain ⟨e, he, rfl⟩ := List.mem_map.1 hp
 have he' := List.mem_range.1 he
 have h1 := h.of_bnd (x := 2 * e) (by omega)
 have h2 := h.of_bnd (x := 2 * e + 1) (by omega)
 unfold okP; simp only; omega
theorem Rib.make (h : Rib r) : dualM r = (⟨((facesR r).length : Nat), sortE (bagL (joinsR r))⟩, 0) := by
 have hok := h.joins_ok
 have hb := bag_ok hok _ (Nat.le_refl _)
 rw [List.take_length] at hb
 have hl := joinsR_len r
 have h1 := h.fpos
 have h2 := h.fac
 have h3 := h.few
 unfold dualM makeE
 rw [if_neg (by omega), if_neg (by omega), if_neg (by
  rintro ⟨p, hp, hx⟩; exact hx (hok p hp)), if_neg (by
  rintro ⟨e, he, hx⟩
  have := hb.m e he
  omega)]
theorem Rib.dual_zero (h : Rib r) (hr : ribE r = 0) : dualE r = 0 := by
 have h2 := h.fac
 unfold dualE
 rw [if_neg (by omega), if_neg (by omega), h.make]
theorem Rib.dual_eq (h : Rib r) (hr : ribE r = 0) : dualD r = dualG r ∧ dualN r = numI (joinsR r) := by
 have hz := h.dual_zero hr
 unfold dualD dualN dualG
 rw [if_neg (by omega), if_neg (by omega), h.make]
 exact ⟨rfl, rfl⟩
theorem dual_num {e : Nat} (he : e < (joinsR r).length) : (numI (joinsR r)).getD e 0 = (numN (joinsR r) e : Int) := by
 unfold numI
 rw [List.getD_eq_getElem?_getD, tabI_get _ he]; rfl
theorem dual_half {x : Nat} (hx : x < 2 * (endsL r.es).length) : dualH (tabI (2 * (endsL r.es).length) (ofF r)) (numI (joinsR r)) (x : Int) = (dD r x : Int) := by
 have hl := joinsR_len r
 have ho : oppH x < 2 * (endsL r.es).length := oppH_lt hx
 unfold dualH dD dH twB
 rw [Int.toNat_natCast, dual_num (by omega), List.getD_eq_getElem?_getD, List.getD_eq_getElem?_getD, tabI_get _ hx, tabI_get _ ho, Option.getD_some, Option.getD_some]
 by_cases c : ofF r (oppH x) < ofF r x ∨ (ofF r x = ofF r (oppH x) ∧ x % 2 = 1)
 ·rw [if_pos c, decide_eq_true c]; simp only [if_true]; omega
 ·rw [if_neg c, decide_eq_false c]; simp only [Bool.false_eq_true, if_false]; omega
theorem Rib.dlt (h : Rib r) {x : Nat} (hx : x < 2 * (endsL r.es).length) : dD r x < 2 * (endsL r.es).length := by
 have := dH_lt (J := joinsR r) (ofF r) (x := x) (by rw [joinsR_len]; exact hx)
 rwa [joinsR_len] at this
theorem Rib.dinj (h : Rib r) {x y : Nat} (hx : x < 2 * (endsL r.es).length) (hy : y < 2 * (endsL r.es).length) (e : dD r x = dD r y) : x = y :=
 dH_inj (J := joinsR r) (ofF r) (by rw [joinsR_len]; exact hx) (by rw [joinsR_len]; exact hy) e
theorem Rib.donto (h : Rib r) {y : Nat} (hy : y < 2 * (endsL r.es).length) : ∃ x, x < 2 * (endsL r.es).length ∧ dD r x = y := by
 have := dH_onto (J := joinsR r) (ofF r) (y := y) (by rw [joinsR_len]; exact hy)
 rwa [joinsR_len] at this
theorem dopp (x : Nat) : dD r (oppH x) = oppH (dD r x) := dH_opp _ _
theorem Rib.ends (h : Rib r) : ∃ zs, NOrd (joinsR r) zs ∧ endsL (dualG r).es = zs.map fun e => nrmP ((joinsR r).getD e (0, 0)) := by
 obtain ⟨zs, hz⟩ := nord_ex (joinsR r)
 exact ⟨zs, hz, made_ends h.joins_ok hz⟩
theorem Rib.elen (h : Rib r) : (endsL (dualG r).es).length = (endsL r.es).length := by
 obtain ⟨zs, hz, e⟩ := h.ends
 rw [e, List.length_map, hz.len, joinsR_len]
theorem Rib.at_ (h : Rib r) {x : Nat} (hx : x < 2 * (endsL r.es).length) : atL (endsL (dualG r).es) (dD r x) = ofF r x := by
 obtain ⟨zs, hz, e⟩ := h.ends
 refine at_dual hz e (fun e he => joins_at (by rwa [joinsR_len] at he)) (by rw [joinsR_len]; exact hx)
noncomputable def drow (r : R) (m : Nat) : List Nat := (faceF (fR (endsL r.es) r.ar) (2 * (endsL r.es).length) m).map (dD r)
theorem Rib.rows (h : Rib r) : dualAr r = (leadsL (fR (endsL r.es) r.ar) (2 * (endsL r.es).length) (2 * (endsL r.es).length)).map fun m => turnL (natI (drow r m)) := by
 unfold dualAr facesI
 rw [h.fr]
 unfold facesN
 rw [List.map_map, List.map_map]
 refine List.map_congr_left fun m hm => ?_
 have hml := (leadsL_mem.1 hm).1
 show turnL _ = turnL _
 congr 1
 unfold natI drow
 rw [List.map_map, List.map_map]
 refine List.map_congr_left fun x hx => ?_
 exact dual_half (face_lt h.ok.perm hml hx)
theorem drow_nodup (h : Rib r) {m : Nat} (hm : m < 2 * (endsL r.es).length) : (natI (drow r m)).Nodup := by
 have hp := h.ok.perm
 have hn := face_nodup hp hm
 unfold natI drow
 rw [List.map_map, List.Nodup, List.pairwise_map]
 refine List.Pairwise.imp_of_mem (fun {a b} ha hb hne e => hne ?_) hn
 have e2 : ((dD r a : Nat) : Int) = ((dD r b : Nat) : Int) := e
 exact h.dinj (face_lt hp hm ha) (face_lt hp hm hb) (by omega)
theorem drow_mem (h : Rib r) {i m : Nat} (hi : (leadsL (fR (endsL r.es) r.ar) (2 * (endsL r.es).length) (2 * (endsL r.es).length))[i]? = some m) {z : Int} :
  z ∈ natI (drow r m) ↔ z ∈ ownL (endsL (dualG r).es) (i : Int) (2 * (endsL (dualG r).es).length) := by
 have hp := h.ok.perm
 rw [ownL_mem, h.elen]
 constructor
 ·intro hz
  obtain ⟨y, hy, rfl⟩ := List.mem_map.1 hz
  obtain ⟨x, hx, rfl⟩ := List.mem_map.1 hy
  obtain ⟨h1, h2⟩ := (of_mem hp hi).1 hx
  have h3 := h.dlt h1
  refine ⟨by omega, by omega, ?_⟩
  rw [Int.toNat_natCast, h.at_ h1]; exact h2
 ·rintro ⟨h1, h2, h3⟩
  obtain ⟨x, hx, e⟩ := h.donto (y := z.toNat) (by omega)
  rw [← e, h.at_ hx] at h3
  refine List.mem_map.2 ⟨dD r x, List.mem_map.2 ⟨x, (of_mem hp hi).2 ⟨hx, h3⟩, rfl⟩, ?_⟩
  rw [e]; omega
theorem own_nodup (L : List (Int × Int)) (v : Int) (k : Nat) : (ownL L v k).Nodup := (ownL_sorted L v k).imp fun h e => by omega
theorem Rib.dual_ok (h : Rib r) : ROk (dualG r) := by
 have hp := h.ok.perm
 have hfl := h.flen
 have h1 := h.fpos
 have h2 := h.fac
 have hc : checkG (dualG r).g = 0 := (bag_check (n := ((facesR r).length : Nat)) (by omega) h.joins_ok (by rw [joinsR_len]; exact h.few)).1
 refine ⟨hc, ?_, ?_, fun i l hl => ?_⟩
 ·rw [conn_parts (n := (facesR r).length) hc rfl, decide_eq_true_eq]
  refine ncls_all (by omega) fun u w hu hw => ?_
  show Conn (endsL (sortE (bagL (joinsR r)))) u w
  rw [bag_conn h.joins_ok]
  have step : ∀ x, x < 2 * (endsL r.es).length → Conn (joinsR r) (ofF r x).toNat (ofF r (oppH x)).toNat := fun x hx => by
   have hj := List.mem_of_getElem? (joins_at (r := r) (e := x / 2) (by omega))
   have b1 := h.of_bnd (x := 2 * (x / 2)) (by omega)
   have b2 := h.of_bnd (x := 2 * (x / 2) + 1) (by omega)
   have e1 : ofF r (2 * (x / 2)) = (((ofF r (2 * (x / 2))).toNat : Nat) : Int) := by omega
   have e2 : ofF r (2 * (x / 2) + 1) = (((ofF r (2 * (x / 2) + 1)).toNat : Nat) : Int) := by omega
   rw [e1, e2] at hj
   have hxx : (x = 2 * (x / 2) ∧ oppH x = 2 * (x / 2) + 1) ∨ (x = 2 * (x / 2) + 1 ∧ oppH x = 2 * (x / 2)) := by unfold oppH; omega
   rcases hxx with ⟨q1, q2⟩ | ⟨q1, q2⟩
   ·rw [q2]; rw (config := { occs := .pos [1] }) [q1]; exact Conn.one (.inl hj)
   ·rw [q2]; rw (config := { occs := .pos [1] }) [q1]; exact Conn.one (.inr hj)
  have hem := emb_of h.ok
  have sig : ∀ x, x < 2 * (endsL r.es).length → ofF r (sR (endsL r.es) r.ar x) = ofF r (oppH x) := fun x hx => by
   have := cyc_step hp (oppH_lt hx)
   have e : fR (endsL r.es) r.ar (oppH x) = sR (endsL r.es) r.ar x := by unfold fR sR; rw [oppH_opp]
   rw [e] at this
   exact this
  have walk : ∀ i x, x < 2 * (endsL r.es).length → Conn (joinsR r) (ofF r x).toNat (ofF r (it (sR (endsL r.es) r.ar) i x)).toNat := fun i x hx => by
   induction i with
   | zero => exact .refl
   | succ i ih =>
    have hl := hem.perm.it_lt hx i
    show Conn _ _ (ofF r (sR (endsL r.es) r.ar (it (sR (endsL r.es) r.ar) i x))).toNat
    rw [sig _ hl]
    exact ih.trans (step _ hl)
  have same : ∀ x y, x < 2 * (endsL r.es).length → y < 2 * (endsL r.es).length → gR (endsL r.es) x = gR (endsL r.es) y → Conn (joinsR r) (ofF r x).toNat (ofF r y).toNat := fun x y hx hy hg => by
   obtain ⟨i, rfl⟩ := same_cyc h.ok hx hy hg
   exact walk i x hx
  have main : ∀ a b, Conn (endsL r.es) a b → ∀ x y, x < 2 * (endsL r.es).length → y < 2 * (endsL r.es).length → gR (endsL r.es) x = a → gR (endsL r.es) y = b → Conn (joinsR r) (ofF r x).toNat (ofF r y).toNat := fun a b hab => by
   induction hab with
   | refl => intro x y hx hy e1 e2; exact same x y hx hy (by rw [e1, e2])
   | @step b c _ hs ih =>
    intro x y hx hy e1 e2
    have get : ∀ p, p ∈ endsL r.es → ∃ k, k < (endsL r.es).length ∧ p = (((gR (endsL r.es) (2 * k) : Nat) : Int), ((gR (endsL r.es) (2 * k + 1) : Nat) : Int)) := fun p hp => by
     obtain ⟨k, hk, e⟩ := List.mem_iff_getElem.1 hp
     refine ⟨k, hk, ?_⟩
     have := hem.ends k hk
     rw [List.getElem?_eq_getElem hk, e] at this
     exact Option.some.inj this
    rcases hs with hs | hs
    ·obtain ⟨k, hk, e⟩ := get _ hs
     rw [Prod.mk.injEq] at e
     have o1 : oppH (2 * k) = 2 * k + 1 := by unfold oppH; omega
     have s1 := step (2 * k) (by omega)
     rw [o1] at s1
     exact ((ih x (2 * k) hx (by omega) e1 (by omega)).trans s1).trans (same (2 * k + 1) y (by omega) hy (by omega))
    ·obtain ⟨k, hk, e⟩ := get _ hs
     rw [Prod.mk.injEq] at e
     have o1 : oppH (2 * k + 1) = 2 * k := by unfold oppH; omega
     have s1 := step (2 * k + 1) (by omega)
     rw [o1] at s1
     exact ((ih x (2 * k + 1) hx (by omega) e1 (by omega)).trans s1).trans (same (2 * k) y (by omega) hy (by omega))
  have half : ∀ u, u < (facesR r).length → ∃ x, x < 2 * (endsL r.es).length ∧ (ofF r x).toNat = u := fun u hu => by
   rw [hfl] at hu
   have e0 := List.getElem?_eq_getElem hu
   have hm := lead_at e0
   have := (of_mem hp e0).1 (face_self _ _ _)
   exact ⟨_, hm.1, by unfold ofF; rw [this.2]; omega⟩
  obtain ⟨x, hx, rfl⟩ := half u hu
  obtain ⟨y, hy, rfl⟩ := half w hw
  have hcn : ncls r.n.toNat (Conn (endsL r.es)) = 1 := by
   have hk : r.g.n = ((r.n.toNat : Nat) : Int) := by have h12 : 1 ≤ r.n := (checkG_zero.1 h.ok.c).1.1; show r.n = _; omega
   have := h.ok.conn
   rw [conn_parts h.ok.c hk, decide_eq_true_eq] at this
   exact this
  exact main _ _ (ncls_one (conn_eqv _ _) hcn (hem.lt x hx) (hem.lt y hy)) x y hx hy rfl rfl
 ·show ((dualAr r).length : Int) = _
  rw [h.rows, List.length_map, ← hfl]; rfl
 ·have hl2 : (dualAr r)[i]? = some l := hl
  rw [h.rows, List.getElem?_map] at hl2
  cases hi : (leadsL (fR (endsL r.es) r.ar) (2 * (endsL r.es).length) (2 * (endsL r.es).length))[i]? with
  | none => rw [hi] at hl2; cases hl2
  | some m =>
   rw [hi, Option.map_some] at hl2
   have el := Option.some.inj hl2
   have hm := lead_at hi
   have hnd := drow_nodup h hm.1
   have hmem := fun z => drow_mem h hi (z := z)
   have hpm := turn_perm (natI (drow r m))
   rw [el] at hpm
   have hne : natI (drow r m) ≠ [] := by unfold natI drow faceF; simp
   have hpo : (natI (drow r m)).Perm (ownL (endsL (dualG r).es) (i : Int) (2 * (endsL (dualG r).es).length)) := (List.perm_ext_iff_of_nodup hnd (own_nodup _ _ _)).2 hmem
   refine ⟨hpm.nodup_iff.2 hnd, fun z hz => (hmem z).1 (hpm.mem_iff.1 hz), fun z hz => hpm.mem_iff.2 ((hmem z).2 hz), (hpm.trans hpo).length_eq, .inr ?_⟩
   rw [← el, turn_head hne]
   generalize hX : natI (drow r m) = X at *
   have hXl : 0 < X.length := List.length_pos_iff.2 hne
   have hol := hpo.length_eq
   have a1 := least_le (m := X) (hpo.mem_iff.2 (getD_mem (m := ownL (endsL (dualG r).es) (i : Int) (2 * (endsL (dualG r).es).length)) (i := 0) (by omega)))
   have a2 := sorted_head (ownL_sorted (endsL (dualG r).es) (i : Int) (2 * (endsL (dualG r).es).length)) (hpo.mem_iff.1 (getD_mem (m := X) (leastN_lt hne)))
   omega
end
def rightR (r : R) : Bool := fewR r && decide (ribE r = 0)
theorem rightR_ok (r : R) : ACall Tryz.prog 19 [tR r] (tbool (rightR r)) := by
 have f1 := FewR_ok r
 unfold rightR
 by_cases hr : fewR r = true
 ·have hC := refCheck_ok r (rsm_of hr)
  rw [hr] at f1 ⊢
  rw [Bool.true_and]
  generalize ribE r = E at *
  clear hr
  obtain ⟨n, es, ar⟩ := r
  refine ACall.of_body Tryz.func19 rfl (by kernel_rfl) ?_
  simp only [entry, Tryz.ntmps19, tR]
  refine zU ?_
  by_cases hE : E = 0
  ·rw [decide_eq_true hE]
   refine zR (zc @hE trivial) (zc f1 (zc hC trivial)) trivial ?_
   simp [Rets, aret, Blk.cells, ty, Tryz.results19, ares, toT1, toT, borrow, borrow0, capCell, toTree0, tbool]
  ·rw [decide_eq_false hE]
   refine zR (zc @hE trivial) (zc f1 (zc hC trivial)) trivial ?_
   simp [Rets, aret, Blk.cells, ty, Tryz.results19, ares, toT1, toT, borrow, borrow0, capCell, toTree0, tbool]
 ·simp only [Bool.not_eq_true] at hr
  rw [hr] at f1 ⊢
  rw [Bool.false_and]
  clear hr
  obtain ⟨n, es, ar⟩ := r
  refine ACall.of_body Tryz.func19 rfl (by kernel_rfl) ?_
  simp only [entry, Tryz.ntmps19, tR]
  refine zU ?_
  refine zR trivial (zc f1 trivial) trivial ?_
  simp [Rets, aret, Blk.cells, ty, Tryz.results19, ares, toT1, toT, borrow, borrow0, capCell, toTree0, tbool]
theorem rightR_iff {r : R} : rightR r = true ↔ fewR r = true ∧ ribE r = 0 := by
 unfold rightR; rw [Bool.and_eq_true, decide_eq_true_eq]
end Go.Proofs.YtfkegnhpihoncaaGreat
