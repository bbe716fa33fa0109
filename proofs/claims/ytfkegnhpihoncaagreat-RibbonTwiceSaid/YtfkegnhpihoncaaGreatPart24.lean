/- A part of the proof: contracts of functions of the program, and plain lemmas. -/
import Derived.Test.YtfkegnhpihoncaaGreatPart23
import Derived.Test.YtfkegnhpihoncaaGreatLayerC
set_option linter.all false
namespace Go.Proofs.YtfkegnhpihoncaaGreat
open Go.Sp
set_option linter.unusedSimpArgs false
set_option linter.unusedVariables false
noncomputable def dualG (r : R) : R := ⟨((facesR r).length : Nat), sortE (bagL (joinsR r)), dualAr r⟩
noncomputable def dD (r : R) (x : Nat) : Nat := dH (joinsR r) (ofF r) x
structure Rib (r : R) : Prop where
  ok : ROk r
  pos : 0 < (endsL r.es).length
  few : (endsL r.es).length ≤ 50
  fac : (facesR r).length ≤ 12
section
variable {r : R}
theorem Rib.fr (h : Rib r) : facesR r = facesN (fR (endsL r.es) r.ar) (2 * (endsL r.es).length) (2 * (endsL r.es).length) := by
  have := h.pos
  unfold facesR; rw [if_neg (by omega)]
theorem Rib.flen (h : Rib r) : (facesR r).length = (leadsL (fR (endsL r.es) r.ar) (2 * (endsL r.es).length) (2 * (endsL r.es).length)).length := by
  rw [h.fr]; unfold facesN; rw [List.length_map]
theorem Rib.fpos (h : Rib r) : 1 ≤ (facesR r).length := (euler_of h.ok).2.2
theorem Rib.of_bnd (h : Rib r) {x : Nat} (hx : x < 2 * (endsL r.es).length) : 0 ≤ ofF r x ∧ ofF r x < ((facesR r).length : Int) := by
  rw [h.fr]; exact Go.Proofs.YtfkegnhpihoncaaGreat.of_bnd h.ok.perm hx
theorem joins_at {e : Nat} (he : e < (endsL r.es).length) : (joinsR r)[e]? = some (ofF r (2 * e), ofF r (2 * e + 1)) := by simp [joinsR, he]
theorem Rib.joins_ok (h : Rib r) : ∀ p, p ∈ joinsR r → okP ((facesR r).length : Nat) p := fun p hp => by
  obtain ⟨e, he, rfl⟩ := List.mem_map.1 hp
  have he' := List.mem_range.1 he
  have h1 := h.of_bnd (x := 2 * e) (by omega)
  have h2 := h.of_bnd (x := 2 * e + 1) (by omega)
  unfold okP; simp only; omega
theorem Rib.make (h : Rib r) : dualM r = (⟨((facesR r).length : Nat), sortE (bagL (joinsR r))⟩, 0) := by
  have hok := h.joins_ok
  have hb := bag_ok hok _ (Nat.le_refl _)
  rw [List.take_length] at hb
  have hl := joinsR_len r
  have h1 := h.fpos
  have h2 := h.fac
  have h3 := h.few
  unfold dualM makeE
  rw [if_neg (by omega), if_neg (by omega), if_neg (by
    rintro ⟨p, hp, hx⟩; exact hx (hok p hp)), if_neg (by
    rintro ⟨e, he, hx⟩
    have := hb.m e he
    omega)]
theorem Rib.dual_zero (h : Rib r) (hr : ribE r = 0) : dualE r = 0 := by
  have h2 := h.fac
  unfold dualE
  rw [if_neg (by omega), if_neg (by omega), h.make]
theorem Rib.dual_eq (h : Rib r) (hr : ribE r = 0) : dualD r = dualG r ∧ dualN r = numI (joinsR r) := by
  have hz := h.dual_zero hr
  unfold dualD dualN dualG
  rw [if_neg (by omega), if_neg (by omega), h.make]
  exact ⟨rfl, rfl⟩
theorem dual_num {e : Nat} (he : e < (joinsR r).length) : (numI (joinsR r)).getD e 0 = (numN (joinsR r) e : Int) := by
  unfold numI
  rw [List.getD_eq_getElem?_getD, tabI_get _ he]; rfl
theorem dual_half {x : Nat} (hx : x < 2 * (endsL r.es).length) : dualH (tabI (2 * (endsL r.es).length) (ofF r)) (numI (joinsR r)) (x : Int) = (dD r x : Int) := by
  have hl := joinsR_len r
  have ho : oppH x < 2 * (endsL r.es).length := oppH_lt hx
  unfold dualH dD dH twB
  rw [Int.toNat_natCast, dual_num (by omega), List.getD_eq_getElem?_getD, List.getD_eq_getElem?_getD, tabI_get _ hx, tabI_get _ ho, Option.getD_some, Option.getD_some]
  by_cases c : ofF r (oppH x) < ofF r x ∨ (ofF r x = ofF r (oppH x) ∧ x % 2 = 1)
  · rw [if_pos c, decide_eq_true c]; simp only [if_true]; omega
  · rw [if_neg c, decide_eq_false c]; simp only [Bool.false_eq_true, if_false]; omega
theorem Rib.dlt (h : Rib r) {x : Nat} (hx : x < 2 * (endsL r.es).length) : dD r x < 2 * (endsL r.es).length := by
  have := dH_lt (J := joinsR r) (ofF r) (x := x) (by rw [joinsR_len]; exact hx)
  rwa [joinsR_len] at this
theorem Rib.dinj (h : Rib r) {x y : Nat} (hx : x < 2 * (endsL r.es).length) (hy : y < 2 * (endsL r.es).length) (e : dD r x = dD r y) : x = y :=
  dH_inj (J := joinsR r) (ofF r) (by rw [joinsR_len]; exact hx) (by rw [joinsR_len]; exact hy) e
theorem Rib.donto (h : Rib r) {y : Nat} (hy : y < 2 * (endsL r.es).length) : ∃ x, x < 2 * (endsL r.es).length ∧ dD r x = y := by
  have := dH_onto (J := joinsR r) (ofF r) (y := y) (by rw [joinsR_len]; exact hy)
  rwa [joinsR_len] at this
theorem dopp (x : Nat) : dD r (oppH x) = oppH (dD r x) := dH_opp _ _
theorem Rib.ends (h : Rib r) : ∃ zs, NOrd (joinsR r) zs ∧ endsL (dualG r).es = zs.map fun e => nrmP ((joinsR r).getD e (0, 0)) := by
  obtain ⟨zs, hz⟩ := nord_ex (joinsR r)
  exact ⟨zs, hz, made_ends h.joins_ok hz⟩
theorem Rib.elen (h : Rib r) : (endsL (dualG r).es).length = (endsL r.es).length := by
  obtain ⟨zs, hz, e⟩ := h.ends
  rw [e, List.length_map, hz.len, joinsR_len]
theorem Rib.at_ (h : Rib r) {x : Nat} (hx : x < 2 * (endsL r.es).length) : atL (endsL (dualG r).es) (dD r x) = ofF r x := by
  obtain ⟨zs, hz, e⟩ := h.ends
  refine at_dual hz e (fun e he => joins_at (by rwa [joinsR_len] at he)) (by rw [joinsR_len]; exact hx)
noncomputable def drow (r : R) (m : Nat) : List Nat := (faceF (fR (endsL r.es) r.ar) (2 * (endsL r.es).length) m).map (dD r)
theorem Rib.rows (h : Rib r) : dualAr r = (leadsL (fR (endsL r.es) r.ar) (2 * (endsL r.es).length) (2 * (endsL r.es).length)).map fun m => turnL (natI (drow r m)) := by
  unfold dualAr facesI
  rw [h.fr]
  unfold facesN
  rw [List.map_map, List.map_map]
  refine List.map_congr_left fun m hm => ?_
  have hml := (leadsL_mem.1 hm).1
  show turnL _ = turnL _
  congr 1
  unfold natI drow
  rw [List.map_map, List.map_map]
  refine List.map_congr_left fun x hx => ?_
  exact dual_half (face_lt h.ok.perm hml hx)
theorem drow_nodup (h : Rib r) {m : Nat} (hm : m < 2 * (endsL r.es).length) : (natI (drow r m)).Nodup := by
  have hp := h.ok.perm
  have hn := face_nodup hp hm
  unfold natI drow
  rw [List.map_map, List.Nodup, List.pairwise_map]
  refine List.Pairwise.imp_of_mem (fun {a b} ha hb hne e => hne ?_) hn
  have e2 : ((dD r a : Nat) : Int) = ((dD r b : Nat) : Int) := e
  exact h.dinj (face_lt hp hm ha) (face_lt hp hm hb) (by omega)
theorem drow_mem (h : Rib r) {i m : Nat} (hi : (leadsL (fR (endsL r.es) r.ar) (2 * (endsL r.es).length) (2 * (endsL r.es).length))[i]? = some m) {z : Int} :
    z ∈ natI (drow r m) ↔ z ∈ ownL (endsL (dualG r).es) (i : Int) (2 * (endsL (dualG r).es).length) := by
  have hp := h.ok.perm
  rw [ownL_mem, h.elen]
  constructor
  · intro hz
    obtain ⟨y, hy, rfl⟩ := List.mem_map.1 hz
    obtain ⟨x, hx, rfl⟩ := List.mem_map.1 hy
    obtain ⟨h1, h2⟩ := (of_mem hp hi).1 hx
    have h3 := h.dlt h1
    refine ⟨by omega, by omega, ?_⟩
    rw [Int.toNat_natCast, h.at_ h1]; exact h2
  · rintro ⟨h1, h2, h3⟩
    obtain ⟨x, hx, e⟩ := h.donto (y := z.toNat) (by omega)
    rw [← e, h.at_ hx] at h3
    refine List.mem_map.2 ⟨dD r x, List.mem_map.2 ⟨x, (of_mem hp hi).2 ⟨hx, h3⟩, rfl⟩, ?_⟩
    rw [e]; omega
theorem own_nodup (L : List (Int × Int)) (v : Int) (k : Nat) : (ownL L v k).Nodup := (ownL_sorted L v k).imp fun h e => by omega
theorem Rib.dual_ok (h : Rib r) : ROk (dualG r) := by
  have hp := h.ok.perm
  have hfl := h.flen
  have h1 := h.fpos
  have h2 := h.fac
  have hc : checkG (dualG r).g = 0 := (bag_check (n := ((facesR r).length : Nat)) (by omega) h.joins_ok (by rw [joinsR_len]; exact h.few)).1
  refine ⟨hc, ?_, ?_, fun i l hl => ?_⟩
  · rw [conn_parts (n := (facesR r).length) hc rfl, decide_eq_true_eq]
    refine ncls_all (by omega) fun u w hu hw => ?_
    show Conn (endsL (sortE (bagL (joinsR r)))) u w
    rw [bag_conn h.joins_ok]
    have step : ∀ x, x < 2 * (endsL r.es).length → Conn (joinsR r) (ofF r x).toNat (ofF r (oppH x)).toNat := fun x hx => by
      have hj := List.mem_of_getElem? (joins_at (r := r) (e := x / 2) (by omega))
      have b1 := h.of_bnd (x := 2 * (x / 2)) (by omega)
      have b2 := h.of_bnd (x := 2 * (x / 2) + 1) (by omega)
      have e1 : ofF r (2 * (x / 2)) = (((ofF r (2 * (x / 2))).toNat : Nat) : Int) := by omega
      have e2 : ofF r (2 * (x / 2) + 1) = (((ofF r (2 * (x / 2) + 1)).toNat : Nat) : Int) := by omega
      rw [e1, e2] at hj
      have hxx : (x = 2 * (x / 2) ∧ oppH x = 2 * (x / 2) + 1) ∨ (x = 2 * (x / 2) + 1 ∧ oppH x = 2 * (x / 2)) := by unfold oppH; omega
      rcases hxx with ⟨q1, q2⟩ | ⟨q1, q2⟩
      · rw [q2]; rw (config := { occs := .pos [1] }) [q1]; exact Conn.one (.inl hj)
      · rw [q2]; rw (config := { occs := .pos [1] }) [q1]; exact Conn.one (.inr hj)
    have hem := emb_of h.ok
    have sig : ∀ x, x < 2 * (endsL r.es).length → ofF r (sR (endsL r.es) r.ar x) = ofF r (oppH x) := fun x hx => by
      have := cyc_step hp (oppH_lt hx)
      have e : fR (endsL r.es) r.ar (oppH x) = sR (endsL r.es) r.ar x := by unfold fR sR; rw [oppH_opp]
      rw [e] at this
      exact this
    have walk : ∀ i x, x < 2 * (endsL r.es).length → Conn (joinsR r) (ofF r x).toNat (ofF r (it (sR (endsL r.es) r.ar) i x)).toNat := fun i x hx => by
      induction i with
      | zero => exact .refl
      | succ i ih =>
        have hl := hem.perm.it_lt hx i
        show Conn _ _ (ofF r (sR (endsL r.es) r.ar (it (sR (endsL r.es) r.ar) i x))).toNat
        rw [sig _ hl]
        exact ih.trans (step _ hl)
    have same : ∀ x y, x < 2 * (endsL r.es).length → y < 2 * (endsL r.es).length → gR (endsL r.es) x = gR (endsL r.es) y → Conn (joinsR r) (ofF r x).toNat (ofF r y).toNat := fun x y hx hy hg => by
      obtain ⟨i, rfl⟩ := same_cyc h.ok hx hy hg
      exact walk i x hx
    have main : ∀ a b, Conn (endsL r.es) a b → ∀ x y, x < 2 * (endsL r.es).length → y < 2 * (endsL r.es).length → gR (endsL r.es) x = a → gR (endsL r.es) y = b → Conn (joinsR r) (ofF r x).toNat (ofF r y).toNat := fun a b hab => by
      induction hab with
      | refl => intro x y hx hy e1 e2; exact same x y hx hy (by rw [e1, e2])
      | @step b c _ hs ih =>
        intro x y hx hy e1 e2
        have get : ∀ p, p ∈ endsL r.es → ∃ k, k < (endsL r.es).length ∧ p = (((gR (endsL r.es) (2 * k) : Nat) : Int), ((gR (endsL r.es) (2 * k + 1) : Nat) : Int)) := fun p hp => by
          obtain ⟨k, hk, e⟩ := List.mem_iff_getElem.1 hp
          refine ⟨k, hk, ?_⟩
          have := hem.ends k hk
          rw [List.getElem?_eq_getElem hk, e] at this
          exact Option.some.inj this
        rcases hs with hs | hs
        · obtain ⟨k, hk, e⟩ := get _ hs
          rw [Prod.mk.injEq] at e
          have o1 : oppH (2 * k) = 2 * k + 1 := by unfold oppH; omega
          have s1 := step (2 * k) (by omega)
          rw [o1] at s1
          exact ((ih x (2 * k) hx (by omega) e1 (by omega)).trans s1).trans (same (2 * k + 1) y (by omega) hy (by omega))
        · obtain ⟨k, hk, e⟩ := get _ hs
          rw [Prod.mk.injEq] at e
          have o1 : oppH (2 * k + 1) = 2 * k := by unfold oppH; omega
          have s1 := step (2 * k + 1) (by omega)
          rw [o1] at s1
          exact ((ih x (2 * k + 1) hx (by omega) e1 (by omega)).trans s1).trans (same (2 * k) y (by omega) hy (by omega))
    have half : ∀ u, u < (facesR r).length → ∃ x, x < 2 * (endsL r.es).length ∧ (ofF r x).toNat = u := fun u hu => by
      rw [hfl] at hu
      have e0 := List.getElem?_eq_getElem hu
      have hm := lead_at e0
      have := (of_mem hp e0).1 (face_self _ _ _)
      exact ⟨_, hm.1, by unfold ofF; rw [this.2]; omega⟩
    obtain ⟨x, hx, rfl⟩ := half u hu
    obtain ⟨y, hy, rfl⟩ := half w hw
    have hcn : ncls r.n.toNat (Conn (endsL r.es)) = 1 := by
      have hk : r.g.n = ((r.n.toNat : Nat) : Int) := by have h12 : 1 ≤ r.n := (checkG_zero.1 h.ok.c).1.1; show r.n = _; omega
      have := h.ok.conn
      rw [conn_parts h.ok.c hk, decide_eq_true_eq] at this
      exact this
    exact main _ _ (ncls_one (conn_eqv _ _) hcn (hem.lt x hx) (hem.lt y hy)) x y hx hy rfl rfl
  · show ((dualAr r).length : Int) = _
    rw [h.rows, List.length_map, ← hfl]; rfl
  · have hl2 : (dualAr r)[i]? = some l := hl
    rw [h.rows, List.getElem?_map] at hl2
    cases hi : (leadsL (fR (endsL r.es) r.ar) (2 * (endsL r.es).length) (2 * (endsL r.es).length))[i]? with
    | none => rw [hi] at hl2; cases hl2
    | some m =>
      rw [hi, Option.map_some] at hl2
      have el := Option.some.inj hl2
      have hm := lead_at hi
      have hnd := drow_nodup h hm.1
      have hmem := fun z => drow_mem h hi (z := z)
      have hpm := turn_perm (natI (drow r m))
      rw [el] at hpm
      have hne : natI (drow r m) ≠ [] := by unfold natI drow faceF; simp
      have hpo : (natI (drow r m)).Perm (ownL (endsL (dualG r).es) (i : Int) (2 * (endsL (dualG r).es).length)) := (List.perm_ext_iff_of_nodup hnd (own_nodup _ _ _)).2 hmem
      refine ⟨hpm.nodup_iff.2 hnd, fun z hz => (hmem z).1 (hpm.mem_iff.1 hz), fun z hz => hpm.mem_iff.2 ((hmem z).2 hz), (hpm.trans hpo).length_eq, .inr ?_⟩
      rw [← el, turn_head hne]
      generalize hX : natI (drow r m) = X at *
      have hXl : 0 < X.length := List.length_pos_iff.2 hne
      have hol := hpo.length_eq
      have a1 := least_le (m := X) (hpo.mem_iff.2 (getD_mem (m := ownL (endsL (dualG r).es) (i : Int) (2 * (endsL (dualG r).es).length)) (i := 0) (by omega)))
      have a2 := sorted_head (ownL_sorted (endsL (dualG r).es) (i : Int) (2 * (endsL (dualG r).es).length)) (hpo.mem_iff.1 (getD_mem (m := X) (leastN_lt hne)))
      omega
end
end Go.Proofs.YtfkegnhpihoncaaGreat
set_option linter.all false
namespace Go.Proofs.YtfkegnhpihoncaaGreat
open Go.Sp
set_option linter.unusedSimpArgs false
set_option linter.unusedVariables false
theorem vert_half {r : R} (hr : ROk r) (h0 : 0 < (endsL r.es).length) {v : Nat} (hv : v < r.n.toNat) : ∃ x, x < 2 * (endsL r.es).length ∧ gR (endsL r.es) x = v := by
  have hem := emb_of hr
  have hk : r.g.n = ((r.n.toNat : Nat) : Int) := by have h12 : 1 ≤ r.n := (checkG_zero.1 hr.c).1.1; show r.n = _; omega
  have hcn := hr.conn
  rw [conn_parts hr.c hk, decide_eq_true_eq] at hcn
  have hc := ncls_one (conn_eqv _ _) hcn (hem.lt 0 (by omega)) hv
  have get : ∀ p, p ∈ endsL r.es → ∃ k, k < (endsL r.es).length ∧ p = (((gR (endsL r.es) (2 * k) : Nat) : Int), ((gR (endsL r.es) (2 * k + 1) : Nat) : Int)) := fun p hp => by
    obtain ⟨k, hk, e⟩ := List.mem_iff_getElem.1 hp
    refine ⟨k, hk, ?_⟩
    have := hem.ends k hk
    rw [List.getElem?_eq_getElem hk, e] at this
    exact Option.some.inj this
  cases hc with
  | refl => exact ⟨0, by omega, rfl⟩
  | @step b c _ hs =>
    rcases hs with hs | hs
    · obtain ⟨k, hk, e⟩ := get _ hs
      have := congrArg Prod.snd e
      simp only at this
      exact ⟨2 * k + 1, by omega, by omega⟩
    · obtain ⟨k, hk, e⟩ := get _ hs
      have := congrArg Prod.fst e
      simp only at this
      exact ⟨2 * k, by omega, by omega⟩
section
variable {r : R}
theorem drow_get {m p : Nat} (hf : faceF (fR (endsL r.es) r.ar) (2 * (endsL r.es).length) m = (List.range p).map fun i => it (fR (endsL r.es) r.ar) i m) {k : Nat} (hk : k < p) :
    (natI (drow r m))[k]? = some ((dD r (it (fR (endsL r.es) r.ar) k m) : Nat) : Int) := by
  unfold natI drow; rw [hf, List.map_map, List.map_map, List.getElem?_map, List.getElem?_range hk]; rfl
theorem drow_len {m p : Nat} (hf : faceF (fR (endsL r.es) r.ar) (2 * (endsL r.es).length) m = (List.range p).map fun i => it (fR (endsL r.es) r.ar) i m) : (natI (drow r m)).length = p := by
  unfold natI drow; rw [hf]; simp
theorem Rib.dnext (h : Rib r) {x : Nat} (hx : x < 2 * (endsL r.es).length) : sR (endsL (dualG r).es) (dualG r).ar (dD r x) = dD r (fR (endsL r.es) r.ar x) := by
  have hp := h.ok.perm
  obtain ⟨i, m, e1, e2, e3⟩ := of_spec hp hx
  have hm := lead_at e2
  have hat := h.at_ hx
  obtain ⟨p, p1, p2, p3, p4, p5⟩ := face_spec hp hm.1
  rw [p5] at e3
  obtain ⟨j, hj, rfl⟩ := List.mem_map.1 e3
  have hj := List.mem_range.1 hj
  have hl := drow_len p5
  have hnd := drow_nodup h hm.1
  have hn := nextI_of hnd (drow_get p5 hj) (by rw [hl]; exact drow_get p5 (Nat.mod_lt (j + 1) (by omega)))
  have hit : it (fR (endsL r.es) r.ar) ((j + 1) % p) m = fR (endsL r.es) r.ar (it (fR (endsL r.es) r.ar) j m) := by rw [← it_mod p1 p3 (j + 1)]; rfl
  rw [hit] at hn
  have hrow : (dualAr r)[i]? = some (turnL (natI (drow r m))) := by rw [h.rows, List.getElem?_map, e2]; rfl
  have hmem : ((dD r (it (fR (endsL r.es) r.ar) j m) : Nat) : Int) ∈ natI (drow r m) := List.mem_of_getElem? (drow_get p5 hj)
  have hrot := nextI_rot hnd (leastN_le (natI (drow r m))) hmem
  unfold sR nextR
  rw [hat]
  show (nextI ((dualAr r).getD (ofF r _).toNat []) _).toNat = _
  unfold ofF
  rw [e1, Int.toNat_natCast, List.getD_eq_getElem?_getD, hrow, Option.getD_some]
  show (nextI (turnL (natI (drow r m))) _).toNat = _
  unfold turnL
  rw [hrot, hn]; rfl
theorem Rib.dface (h : Rib r) {x : Nat} (hx : x < 2 * (endsL r.es).length) : fR (endsL (dualG r).es) (dualG r).ar (dD r x) = dD r (sR (endsL r.es) r.ar x) := by
  have h1 := h.dnext (oppH_lt hx)
  have e : fR (endsL r.es) r.ar (oppH x) = sR (endsL r.es) r.ar x := by unfold fR sR; rw [oppH_opp]
  rw [e, dopp] at h1
  exact h1
theorem Rib.dface_it (h : Rib r) {x : Nat} (hx : x < 2 * (endsL r.es).length) : ∀ k, it (fR (endsL (dualG r).es) (dualG r).ar) k (dD r x) = dD r (it (sR (endsL r.es) r.ar) k x)
  | 0 => rfl
  | k + 1 => by
    show fR _ _ (it _ k (dD r x)) = dD r (sR _ _ (it _ k x))
    rw [h.dface_it hx k, h.dface ((emb_of h.ok).perm.it_lt hx k)]
theorem Rib.inv (h : Rib r) : ∃ I : Nat → Nat, ∀ y, y < 2 * (endsL r.es).length → I y < 2 * (endsL r.es).length ∧ dD r (I y) = y := by
  classical
  refine ⟨fun y => if hy : y < 2 * (endsL r.es).length then Classical.choose (h.donto hy) else 0, fun y hy => ?_⟩
  simp only [dif_pos hy]
  exact Classical.choose_spec (h.donto hy)
theorem keep_it (hr : ROk r) {x : Nat} (hx : x < 2 * (endsL r.es).length) : ∀ k, gR (endsL r.es) (it (sR (endsL r.es) r.ar) k x) = gR (endsL r.es) x
  | 0 => rfl
  | k + 1 => by
    show gR _ (sR _ _ (it _ k x)) = _
    rw [(emb_of hr).keep _ ((emb_of hr).perm.it_lt hx k)]; exact keep_it hr hx k
theorem Rib.dcyc (h : Rib r) {x y : Nat} (hx : x < 2 * (endsL r.es).length) (hy : y < 2 * (endsL r.es).length) : cycR (fR (endsL (dualG r).es) (dualG r).ar) (dD r x) (dD r y) ↔ gR (endsL r.es) x = gR (endsL r.es) y := by
  constructor
  · rintro ⟨k, hk⟩
    rw [h.dface_it hx] at hk
    have := h.dinj hy ((emb_of h.ok).perm.it_lt hx k) hk
    rw [this, keep_it h.ok hx]
  · intro hg
    obtain ⟨k, rfl⟩ := same_cyc h.ok hx hy hg
    exact ⟨k, (h.dface_it hx k).symm⟩
theorem Rib.dperm (h : Rib r) : PermN (2 * (endsL r.es).length) (fR (endsL (dualG r).es) (dualG r).ar) := by
  have := h.dual_ok.perm
  rwa [h.elen] at this
theorem Rib.dflen (h : Rib r) : (facesR (dualG r)).length = r.n.toNat := by
  obtain ⟨I, hI⟩ := h.inv
  have hem := emb_of h.ok
  have hf : facesR (dualG r) = facesN (fR (endsL (dualG r).es) (dualG r).ar) (2 * (endsL r.es).length) (2 * (endsL r.es).length) := by
    unfold facesR
    have := h.pos
    rw [if_neg (by rw [h.elen]; omega), h.elen]
  rw [hf, faces_ncls h.dperm]
  rw [ncls_congr (S := fun y z => gR (endsL r.es) (I y) = gR (endsL r.es) (I z))]
  · refine ncls_onto (fun y => gR (endsL r.es) (I y)) (fun y hy => hem.lt _ (hI y hy).1) fun v hv => ?_
    obtain ⟨x, hx, rfl⟩ := vert_half h.ok h.pos hv
    refine ⟨dD r x, h.dlt hx, ?_⟩
    have := hI _ (h.dlt hx)
    rw [h.dinj this.1 hx this.2]
  · intro y z hy hz
    have h1 := hI y hy
    have h2 := hI z hz
    have := h.dcyc h1.1 h2.1
    rw [h1.2, h2.2] at this
    exact this
theorem Rib.npos (h : Rib r) : 1 ≤ r.n ∧ r.n ≤ 12 := (checkG_zero.1 h.ok.c).1
theorem Rib.dual (h : Rib r) : Rib (dualG r) := ⟨h.dual_ok, by rw [h.elen]; exact h.pos, by rw [h.elen]; exact h.few, by rw [h.dflen]; have := h.npos; omega⟩
theorem Rib.dgenus (h : Rib r) : genusR (dualG r) = genusR r := by
  have := h.npos
  have hn : (dualG r).n = ((facesR r).length : Nat) := rfl
  unfold genusR
  rw [h.elen, h.dflen, hn]
  congr 1
  omega
theorem ext_get {l m : List Int} (h1 : l.length = m.length) (h : ∀ i, i < l.length → l[i]? = m[i]?) : l = m := by
  apply List.ext_getElem?
  intro i
  by_cases hi : i < l.length
  · exact h i hi
  · rw [List.getElem?_eq_none (by omega), List.getElem?_eq_none (by omega)]
theorem ok_head {l : List Int} {L : List (Int × Int)} {v : Int} {k : Nat} (h : LOk l (ownL L v k)) : ∀ x, x ∈ l → l.getD 0 0 ≤ x := fun x hx => by
  rcases h.hd with e | e
  · rw [e] at hx; cases hx
  · rw [e]; exact sorted_head (ownL_sorted _ _ _) (h.sub x hx)
theorem Rib.twice (h : Rib r) {γ : Nat → Nat} (hγ : ∀ x, x < 2 * (endsL r.es).length → γ (dD (dualG r) (dD r x)) = x) :
    ((dualG (dualG r)).ar.map fun l => turnL (l.map fun z => ((γ z.toNat : Nat) : Int))).Perm r.ar := by
  obtain ⟨I, hI⟩ := h.inv
  have hd := h.dual
  have hem := emb_of h.ok
  have hp := h.dperm
  have hrl : (r.ar.length : Int) = r.n := h.ok.len
  have hn := h.npos
  have hN := h.elen
  have hrow : (dualG (dualG r)).ar = (leadsL (fR (endsL (dualG r).es) (dualG r).ar) (2 * (endsL r.es).length) (2 * (endsL r.es).length)).map fun m => turnL (natI (drow (dualG r) m)) := by
    have := hd.rows
    rw [hN] at this
    exact this
  rw [hrow, List.map_map]
  have key : ∀ m, m ∈ leadsL (fR (endsL (dualG r).es) (dualG r).ar) (2 * (endsL r.es).length) (2 * (endsL r.es).length) → turnL ((turnL (natI (drow (dualG r) m))).map fun z => ((γ z.toNat : Nat) : Int)) = r.ar.getD (gR (endsL r.es) (I m)) [] := fun m hm => by
    have hml := (leadsL_mem.1 hm).1
    obtain ⟨hx, ex⟩ := hI m hml
    generalize I m = x at *
    obtain ⟨l, q1, q2, q3, q4⟩ := h.ok.row hx
    have hg : (atL (endsL r.es) x).toNat = gR (endsL r.es) x := rfl
    rw [hg] at q2
    rw [q2]
    have hlp : 0 < l.length := List.length_pos_of_mem q4
    have ri := row_iter q3.nd (s := sR (endsL r.es) r.ar) (fun z hz => by
      have hz2 := ownL_mem.1 (q3.sub _ hz)
      rw [Int.toNat_natCast] at hz2
      have hzl : z < 2 * (endsL r.es).length := by omega
      have hzn := h.ok.next hzl
      have : nextR (endsL r.es) r.ar z = nextI l (z : Int) := by
        unfold nextR
        rw [hz2.2.2]
        show nextI (r.ar.getD (gR (endsL r.es) x) []) _ = _
        rw [q2]
      unfold sR
      rw [← this]; omega) q4
    have hjl := (getD_idx q4).1
    generalize hj : l.idxOf (x : Int) = j at *
    obtain ⟨p, p1, p2, p3, p4, p5⟩ := face_spec hp hml
    rw [← hN] at p5
    have hXl := drow_len p5
    have hXg := fun k (hk : k < p) => drow_get p5 hk
    have hpl : p = l.length := by
      have h1 := ri l.length
      have h2 := ri p
      have h0 := ri 0
      rw [Nat.add_mod_right, Nat.mod_eq_of_lt hjl] at h1
      rw [Nat.add_zero, Nat.mod_eq_of_lt hjl] at h0
      have e1 : it (sR (endsL r.es) r.ar) l.length x = x := by
        rw [h0] at h1
        have := Option.some.inj h1
        have h00 : it (sR (endsL r.es) r.ar) 0 x = x := rfl
        rw [h00] at this; omega
      have e2 : it (sR (endsL r.es) r.ar) p x = x := by
        have := h.dface_it hx p
        rw [ex, p3, ← ex] at this
        exact (h.dinj hx (hem.perm.it_lt hx p) this).symm
      have a1 : p ≤ l.length := Nat.le_of_not_lt fun hlt => p4 l.length (by omega) hlt (by
        have := h.dface_it hx l.length
        rw [ex, e1, ex] at this; exact this)
      rw [e2] at h2
      have h00 : it (sR (endsL r.es) r.ar) 0 x = x := rfl
      rw [h00] at h0
      obtain ⟨b1, c1⟩ := List.getElem?_eq_some_iff.1 h0
      obtain ⟨b2, c2⟩ := List.getElem?_eq_some_iff.1 h2
      have hjj := nodup_at q3.nd b2 b1 (by rw [c1, c2])
      have a2 : ¬ p < l.length := fun hlt => by
        by_cases hc : j + p < l.length
        · rw [Nat.mod_eq_of_lt hc] at hjj; omega
        · rw [Nat.mod_eq_sub_mod (by omega), Nat.mod_eq_of_lt (by omega)] at hjj; omega
      omega
    have hk := leastN_le (natI (drow (dualG r) m))
    rw [hXl] at hk
    generalize leastN (natI (drow (dualG r) m)) = k at *
    have hturn : turnL (natI (drow (dualG r) m)) = (natI (drow (dualG r) m)).drop (leastN (natI (drow (dualG r) m))) ++ (natI (drow (dualG r) m)).take (leastN (natI (drow (dualG r) m))) := rfl
    generalize hlk : leastN (natI (drow (dualG r) m)) = k2 at *
    have hk2 : k2 ≤ p := by rw [← hlk, ← hXl]; exact leastN_le _
    have hM : (turnL (natI (drow (dualG r) m))).map (fun z => ((γ z.toNat : Nat) : Int)) = l.drop ((j + k2) % l.length) ++ l.take ((j + k2) % l.length) := by
      have hJ : (j + k2) % l.length ≤ l.length := Nat.le_of_lt (Nat.mod_lt _ hlp)
      have hl1 : ((turnL (natI (drow (dualG r) m))).map (fun z => ((γ z.toNat : Nat) : Int))).length = l.length := by rw [List.length_map, turnL_len, hXl, hpl]
      refine ext_get (by rw [hl1, List.length_append, List.length_drop, List.length_take]; omega) fun i hi => ?_
      rw [hl1] at hi
      rw [rot_get hJ hi, List.getElem?_map, hturn, rot_get (by rw [hXl]; exact hk2) (by rw [hXl]; omega), hXl, hXg _ (Nat.mod_lt _ (by omega)), Option.map_some]
      have e3 := h.dface_it hx ((i + k2) % p)
      rw [ex] at e3
      rw [e3, Int.toNat_natCast, hγ _ (hem.perm.it_lt hx _), ← ri ((i + k2) % p), hpl]
      congr 1
      rw [Nat.add_mod_mod, Nat.add_mod_mod]
      congr 1
      omega
    rw [hM]
    exact turn_rot q3.nd (ok_head q3) (Nat.le_of_lt (Nat.mod_lt _ hlp))
  have e1 : (leadsL (fR (endsL (dualG r).es) (dualG r).ar) (2 * (endsL r.es).length) (2 * (endsL r.es).length)).map ((fun l => turnL (l.map fun z => ((γ z.toNat : Nat) : Int))) ∘ fun m => turnL (natI (drow (dualG r) m))) =
      ((leadsL (fR (endsL (dualG r).es) (dualG r).ar) (2 * (endsL r.es).length) (2 * (endsL r.es).length)).map fun m => gR (endsL r.es) (I m)).map fun v => r.ar.getD v [] := by
    rw [List.map_map]
    exact List.map_congr_left fun m hm => key m hm
  rw [e1]
  have e2 : r.ar = (List.range r.n.toNat).map fun v => r.ar.getD v [] := by
    apply List.ext_getElem?
    intro i
    rw [List.getElem?_map]
    by_cases hi : i < r.ar.length
    · rw [List.getElem?_range (by omega), Option.map_some, List.getD_eq_getElem?_getD, List.getElem?_eq_getElem hi]; rfl
    · rw [List.getElem?_eq_none (by omega), List.getElem?_eq_none (by simp; omega)]; rfl
  refine (List.Perm.map _ ?_).trans (by rw [← e2])
  refine (List.perm_ext_iff_of_nodup ?_ List.nodup_range).2 fun v => ?_
  · rw [List.Nodup, List.pairwise_map]
    refine List.Pairwise.imp_of_mem (fun {a b} ha hb hne e => hne ?_) (leads_nodup (f := fR (endsL (dualG r).es) (dualG r).ar) (N := 2 * (endsL r.es).length))
    have ha' := leadsL_mem.1 ha
    have hb' := leadsL_mem.1 hb
    have ia := hI a ha'.1
    have ib := hI b hb'.1
    have hc := (h.dcyc ia.1 ib.1).2 e
    rw [ia.2, ib.2] at hc
    exact lead_unique hp ha'.1 hb'.1 ha'.2 hb'.2 ((face_mem hp ha'.1).2 hc) (face_self _ _ _)
  · rw [List.mem_range]
    constructor
    · intro hv
      obtain ⟨m, hm, rfl⟩ := List.mem_map.1 hv
      exact hem.lt _ (hI m (leadsL_mem.1 hm).1).1
    · intro hv
      obtain ⟨x, hx, rfl⟩ := vert_half h.ok h.pos hv
      obtain ⟨i, m, e1, e2, e3⟩ := of_spec hp (h.dlt hx)
      have hm := List.mem_of_getElem? e2
      have hml := (leadsL_mem.1 hm).1
      refine List.mem_map.2 ⟨m, hm, ?_⟩
      have im := hI m hml
      have hc := (face_mem hp hml).1 e3
      rw [← im.2] at hc
      exact (h.dcyc im.1 hx).1 hc
end
end Go.Proofs.YtfkegnhpihoncaaGreat
