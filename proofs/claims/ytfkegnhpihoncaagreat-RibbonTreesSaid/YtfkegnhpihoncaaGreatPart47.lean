/- A part of the proof. -/
import Derived.Test.YtfkegnhpihoncaaGreatPart40
import Derived.Test.YtfkegnhpihoncaaGreatPart46
import Derived.Test.YtfkegnhpihoncaaGreatLayerC
import Derived.Test.YtfkegnhpihoncaaGreatPart41
import Derived.Test.YtfkegnhpihoncaaGreatPart19
set_option linter.all false
set_option maxHeartbeats 4000000
set_option maxRecDepth 100000
namespace Go.Proofs.YtfkegnhpihoncaaGreat
open Go.Sp
theorem allT_mem {n : Nat} {L : List (Int × Int)} {T : List Nat} : T ∈ allT n L ↔ T.Pairwise (· < ·) ∧ (∀ x, x ∈ T → x < L.length) ∧ T.length + 1 = n ∧ acyc (pkN L T) := by
 unfold allT
 rw [growS_mem (show acyc (pkN L []) from acyc_nil)]
 constructor
 ·rintro ⟨s, rfl, h1, h2, h3, h4⟩
  exact ⟨h1, fun x hx => by have := h2 x hx; omega, h3, h4⟩
 ·rintro ⟨h1, h2, h3, h4⟩
  exact ⟨T, rfl, h1, fun x hx => by have := h2 x hx; omega, h3, h4⟩
theorem allT_nodup (n : Nat) (L : List (Int × Int)) : (allT n L).Nodup := growS_nodup (show acyc (pkN L []) from acyc_nil)
theorem growS_le (n : Nat) (L : List (Int × Int)) : ∀ (k : Nat) (t : List Nat) (e : Nat), (growS n L k t e).length ≤ 2 ^ k
 | 0, t, e => by unfold growS; split <;> simp
 | k + 1, t, e => by
  unfold growS
  split
  ·have := Nat.one_le_two_pow (n := k + 1); simpa using this
  ·rw [List.length_append, Nat.pow_succ]
   have h1 := growS_le n L k t (e + 1)
   have h2 := growS_le n L k (t ++ [e]) (e + 1)
   split
   ·omega
   ·simp; omega
theorem up_nodup {T : List Nat} (h : T.Pairwise (· < ·)) : T.Nodup := h.imp fun h e => by omega
theorem lt_ext {S T : List Nat} (hS : S.Pairwise (· < ·)) (hT : T.Pairwise (· < ·)) (h : ∀ x, x ∈ S ↔ x ∈ T) : S = T :=
 List.Perm.eq_of_pairwise (le := fun x y : Nat => x < y) (fun a b _ _ h1 h2 => absurd h1 (by omega)) hS hT ((List.perm_ext_iff_of_nodup (up_nodup hS) (up_nodup hT)).2 h)
def comp (E : Nat) (S : List Nat) : List Nat := (List.range E).filter fun y => decide (¬ y ∈ S)
theorem comp_mem {E : Nat} {S : List Nat} {y : Nat} : y ∈ comp E S ↔ y < E ∧ ¬ y ∈ S := by simp [comp]
theorem range_lt (E : Nat) : (List.range E).Pairwise (· < ·) := List.pairwise_lt_range
theorem comp_lt (E : Nat) (S : List Nat) : (comp E S).Pairwise (· < ·) := (range_lt E).filter _
theorem comp_len {E : Nat} {S : List Nat} (hn : S.Nodup) (hS : ∀ x, x ∈ S → x < E) : (comp E S).length + S.length = E := by
 have hp : (comp E S ++ S).Perm (List.range E) := (List.perm_ext_iff_of_nodup (List.nodup_append.2 ⟨up_nodup (comp_lt E S), hn, fun a ha b hb e => by subst e; exact (comp_mem.1 ha).2 hb⟩) List.nodup_range).2 fun x => by
  rw [List.mem_append, comp_mem, List.mem_range]
  constructor
  ·rintro (h | h)
   ·exact h.1
   ·exact hS x h
  ·intro h
   by_cases hx : x ∈ S
   ·exact .inr hx
   ·exact .inl ⟨h, hx⟩
 have := hp.length_eq
 rw [List.length_append, List.length_range] at this
 exact this
section
variable {r : R}
noncomputable def coT (r : R) (T : List Nat) : List Nat := comp (endsL r.es).length (T.map (numN (joinsR r)))
noncomputable def backT (r : R) (C : List Nat) : List Nat := (List.range (endsL r.es).length).filter fun e => decide (¬ numN (joinsR r) e ∈ C)
theorem backT_mem {C : List Nat} {e : Nat} : e ∈ backT r C ↔ e < (endsL r.es).length ∧ ¬ numN (joinsR r) e ∈ C := by simp [backT]
theorem Rib.nlt (h : Rib r) {e : Nat} (he : e < (endsL r.es).length) : numN (joinsR r) e < (endsL r.es).length := by
 have := num_lt (J := joinsR r) (e := e) (by rw [joinsR_len]; exact he)
 rwa [joinsR_len] at this
theorem Rib.ninj (h : Rib r) {e f : Nat} (he : e < (endsL r.es).length) (hf : f < (endsL r.es).length) (q : numN (joinsR r) e = numN (joinsR r) f) : e = f :=
 num_inj (J := joinsR r) (by rw [joinsR_len]; exact he) (by rw [joinsR_len]; exact hf) q
theorem Rib.nonto (h : Rib r) {y : Nat} (hy : y < (endsL r.es).length) : ∃ e, e < (endsL r.es).length ∧ numN (joinsR r) e = y := by
 obtain ⟨x, hx, e⟩ := h.donto (y := 2 * y) (by omega)
 refine ⟨x / 2, by omega, ?_⟩
 have := dH_half (J := joinsR r) (ofF r) x
 have e2 : dD r x / 2 = numN (joinsR r) (x / 2) := this
 rw [← e2, e]; omega
theorem Rib.edge (h : Rib r) {e : Nat} (he : e < (endsL r.es).length) : (endsL (dualG r).es)[numN (joinsR r) e]? = some (nrmP (ofF r (2 * e), ofF r (2 * e + 1))) := by
 obtain ⟨zs, hz, hE⟩ := h.ends
 rw [hE, List.getElem?_map, num_at hz (by rw [joinsR_len]; exact he)]
 simp only [Option.map_some]
 rw [List.getD_eq_getElem?_getD, joins_at he]; rfl
theorem Rib.coT_mem (h : Rib r) {T : List Nat} (hT : ∀ x, x ∈ T → x < (endsL r.es).length) {e : Nat} (he : e < (endsL r.es).length) : numN (joinsR r) e ∈ coT r T ↔ ¬ e ∈ T := by
 unfold coT
 rw [comp_mem]
 constructor
 ·rintro ⟨_, h2⟩ h3
  exact h2 (List.mem_map.2 ⟨e, h3, rfl⟩)
 ·intro h3
  refine ⟨h.nlt he, fun h4 => ?_⟩
  obtain ⟨f, hf, q⟩ := List.mem_map.1 h4
  exact h3 (h.ninj (hT f hf) he q ▸ hf)
theorem Rib.coT_len (h : Rib r) {T : List Nat} (hT : ∀ x, x ∈ T → x < (endsL r.es).length) (hn : T.Nodup) : (coT r T).length + T.length = (endsL r.es).length := by
 have := comp_len (E := (endsL r.es).length) (S := T.map (numN (joinsR r))) ?_ ?_
 ·rwa [List.length_map] at this
 ·refine List.pairwise_map.2 (hn.imp_of_mem fun ha hb hne q => hne (h.ninj (hT _ ha) (hT _ hb) q))
 ·intro x hx
  obtain ⟨e, he, rfl⟩ := List.mem_map.1 hx
  exact h.nlt (hT e he)
theorem Rib.backT_len (h : Rib r) {C : List Nat} (hC : ∀ x, x ∈ C → x < (endsL r.es).length) (hn : C.Nodup) : (backT r C).length + C.length = (endsL r.es).length := by
 have h1 : coT r (backT r C) = comp (endsL r.es).length (comp (endsL r.es).length C) := by
  refine lt_ext (comp_lt _ _) (comp_lt _ _) fun y => ?_
  unfold coT
  rw [comp_mem, comp_mem, comp_mem]
  refine and_congr_right fun hy => ?_
  obtain ⟨e, he, rfl⟩ := h.nonto hy
  refine not_congr ⟨fun q => ?_, fun q => ?_⟩
  ·obtain ⟨f, hf, q⟩ := List.mem_map.1 q
   obtain ⟨hf1, hf2⟩ := backT_mem.1 hf
   exact ⟨hy, q ▸ hf2⟩
  ·exact List.mem_map.2 ⟨e, backT_mem.2 ⟨he, q.2⟩, rfl⟩
 have hb : ∀ x, x ∈ backT r C → x < (endsL r.es).length := fun x hx => (backT_mem.1 hx).1
 have h2 := h.coT_len hb (List.nodup_range.filter _)
 have h3 := comp_len (E := (endsL r.es).length) (S := comp (endsL r.es).length C) (up_nodup (comp_lt _ _)) (fun x hx => (comp_mem.1 hx).1)
 have h4 := comp_len (E := (endsL r.es).length) (S := C) hn hC
 rw [h1] at h2
 omega
theorem Rib.same (h : Rib r) {x y : Nat} (hx : x < 2 * (endsL r.es).length) (hy : y < 2 * (endsL r.es).length) : cycR (sR (endsL r.es) r.ar) x y ↔ gR (endsL r.es) x = gR (endsL r.es) y := by
 constructor
 ·rintro ⟨i, rfl⟩
  exact (keep_it h.ok hx i).symm
 ·exact same_cyc h.ok hx hy
theorem Rib.face_half (h : Rib r) {v : Nat} (hv : v < (facesR r).length) : ∃ x, x < 2 * (endsL r.es).length ∧ ofF r x = (v : Int) := by
 have hp := h.ok.perm
 rw [h.flen] at hv
 have hm := List.getElem?_eq_getElem hv
 obtain ⟨hml, hlb⟩ := lead_at hm
 refine ⟨_, hml, ?_⟩
 have := (of_mem hp hm (x := (leadsL (fR (endsL r.es) r.ar) (2 * (endsL r.es).length) (2 * (endsL r.es).length))[v])).1 (face_self _ _ _)
 exact this.2
def oN (r : R) (x : Nat) : Nat := (ofF r x).toNat
theorem Rib.o_cast (h : Rib r) {x : Nat} (hx : x < 2 * (endsL r.es).length) : ((oN r x : Nat) : Int) = ofF r x := Int.toNat_of_nonneg (h.of_bnd hx).1
theorem conn_nrm {M : List (Int × Int)} {a b : Nat} (h : nrmP ((a : Int), (b : Int)) ∈ M) : Conn M a b := by
 refine Conn.one ?_
 unfold nrmP at h
 by_cases hab : a ≤ b
 ·rw [show min (a : Int) (b : Int) = a by omega, show max (a : Int) (b : Int) = b by omega] at h
  exact .inl h
 ·rw [show min (a : Int) (b : Int) = b by omega, show max (a : Int) (b : Int) = a by omega] at h
  exact .inr h
theorem pkN_mem {L : List (Int × Int)} {T : List Nat} {e : Nat} {p : Int × Int} (he : e ∈ T) (hp : L[e]? = some p) : p ∈ pkN L T := by
 refine List.mem_map.2 ⟨e, he, ?_⟩
 rw [List.getD_eq_getElem?_getD, hp]; rfl
theorem tree_conn {n : Nat} {L : List (Int × Int)} {T : List Nat} (hL : InN n L) (hT : ∀ x, x ∈ T → x < L.length) (hl : T.length + 1 = n) (ha : acyc (pkN L T)) : ∀ u v, u < n → v < n → Conn (pkN L T) u v := fun u v hu hv => by
 have h1 := (ncls_len (n := n) (pkN L T) (pkN_in hL hT)).2.1 ha
 rw [pkN_len] at h1
 exact ncls_one (conn_eqv n _) (by omega) hu hv
theorem conn_tree {n : Nat} {L : List (Int × Int)} {T : List Nat} (hL : InN n L) (hT : ∀ x, x ∈ T → x < L.length) (hl : T.length + 1 = n) (hc : ∀ u v, u < n → v < n → Conn (pkN L T) u v) : acyc (pkN L T) := by
 refine (ncls_len (n := n) (pkN L T) (pkN_in hL hT)).2.2 ?_
 rw [pkN_len, ncls_whole (by omega) hc]; omega
theorem half_pair (x : Nat) : (x = 2 * (x / 2) ∧ oppH x = 2 * (x / 2) + 1) ∨ (x = 2 * (x / 2) + 1 ∧ oppH x = 2 * (x / 2)) := by unfold oppH; omega
theorem Rib.inN (h : Rib r) : InN r.n.toNat (endsL r.es) := fun p hp => ends_in (g := r.g) h.ok.c (by have := h.npos; show r.n = _; omega) p hp
theorem Rib.next_face (h : Rib r) {x : Nat} (hx : x < 2 * (endsL r.es).length) : oN r (sR (endsL r.es) r.ar (oppH x)) = oN r x := by
 have := cyc_step h.ok.perm hx
 exact congrArg Int.toNat this
theorem Rib.co_conn (h : Rib r) {T : List Nat} (hT : T ∈ allT r.n.toNat (endsL r.es)) : ∀ u v, u < (facesR r).length → v < (facesR r).length → Conn (pkN (endsL (dualG r).es) (coT r T)) u v := by
 obtain ⟨h1, h2, h3, h4⟩ := allT_mem.1 hT
 have hc := tree_conn h.inN h2 h3 h4
 intro u v hu hv
 obtain ⟨x, hx, ex⟩ := h.face_half hu
 obtain ⟨y, hy, ey⟩ := h.face_half hv
 have key := (emb_of h.ok).cut_one (fun a b ha hb => h.same ha hb) (up_nodup h1) h2 h4 hc (P := fun z => Conn (pkN (endsL (dualG r).es) (coT r T)) (oN r x) (oN r z))
  (fun z hz hP => by rw [h.next_face hz]; exact hP) (fun z hz hn hP => by
   have hz2 : z / 2 < (endsL r.es).length := by omega
   have hm := pkN_mem ((h.coT_mem h2 hz2).2 hn) (h.edge hz2)
   rw [← h.o_cast (x := 2 * (z / 2)) (by omega), ← h.o_cast (x := 2 * (z / 2) + 1) (by omega)] at hm
   have hj := conn_nrm hm
   rcases half_pair z with ⟨e1, e2⟩ | ⟨e1, e2⟩
   ·rw [← e2, ← e1] at hj; exact hP.trans hj
   ·rw [← e1, ← e2] at hj; exact hP.trans hj.symm) hx hy .refl
 have e1 : oN r x = u := by unfold oN; omega
 have e2 : oN r y = v := by unfold oN; omega
 simp only [e1, e2] at key
 exact key
theorem Rib.back_conn (h : Rib r) {C : List Nat} (hC : C ∈ allT (facesR r).length (endsL (dualG r).es)) : ∀ u v, u < r.n.toNat → v < r.n.toNat → Conn (pkN (endsL r.es) (backT r C)) u v := by
 obtain ⟨h1, h2, h3, h4⟩ := allT_mem.1 hC
 have hd := h.dual
 have hn : (dualG r).n.toNat = (facesR r).length := by unfold dualG; simp
 have hc := tree_conn (n := (facesR r).length) (by have := hd.inN; rwa [hn] at this) h2 h3 h4
 have hE := h.elen
 intro u v hu hv
 obtain ⟨x, hx, ex⟩ := vert_half h.ok h.pos hu
 obtain ⟨y, hy, ey⟩ := vert_half h.ok h.pos hv
 have hem := emb_of hd.ok
 have key := hem.cut_one (fun a b ha hb => hd.same ha hb) (up_nodup h1) h2 h4 (by rw [hn]; exact hc) (P := fun z => ∃ w, w < 2 * (endsL r.es).length ∧ dD r w = z ∧ Conn (pkN (endsL r.es) (backT r C)) (gR (endsL r.es) x) (gR (endsL r.es) w))
  (fun z hz => by
   rintro ⟨w, hw, rfl, hP⟩
   have hop : oppH w < 2 * (endsL r.es).length := oppH_lt hw
   refine ⟨fR (endsL r.es) r.ar (oppH w), h.ok.perm.lt _ hop, ?_, ?_⟩
   ·rw [← dopp, h.dnext hop]
   ·have e : fR (endsL r.es) r.ar (oppH w) = sR (endsL r.es) r.ar w := by unfold fR sR; rw [oppH_opp]
    rw [e]
    have := keep_it h.ok hw 1
    have e2 : gR (endsL r.es) (sR (endsL r.es) r.ar w) = gR (endsL r.es) w := this
    rw [e2]; exact hP)
  (fun z hz hn => by
   rintro ⟨w, hw, rfl, hP⟩
   have hop : oppH w < 2 * (endsL r.es).length := oppH_lt hw
   refine ⟨oppH w, hop, dopp w, ?_⟩
   have hw2 : w / 2 < (endsL r.es).length := by omega
   rw [show dD r w / 2 = numN (joinsR r) (w / 2) from dH_half _ _] at hn
   have hm := pkN_mem (backT_mem.2 ⟨hw2, hn⟩) ((emb_of h.ok).ends _ hw2)
   have hj := Conn.one (.inl hm)
   rcases half_pair w with ⟨e1, e2⟩ | ⟨e1, e2⟩
   ·rw [← e2, ← e1] at hj; exact hP.trans hj
   ·rw [← e1, ← e2] at hj; exact hP.trans hj.symm) (x := dD r x) (y := dD r y) (by rw [hE]; exact h.dlt hx) (by rw [hE]; exact h.dlt hy) ⟨x, hx, rfl, .refl⟩
 obtain ⟨w, hw, ew, hk⟩ := key
 have : w = y := h.dinj hw hy ew
 subst this
 rw [ex, ey] at hk
 exact hk
theorem Rib.flat (h : Rib r) (hg : genusR r = 0) : (facesR r).length + r.n.toNat = (endsL r.es).length + 2 := by
 have h1 := (euler_law h.ok).1
 have h2 := h.npos
 rw [hg] at h1
 omega
theorem Rib.dualIn (h : Rib r) : InN (facesR r).length (endsL (dualG r).es) := by
 have := h.dual.inN
 rwa [show (dualG r).n.toNat = (facesR r).length by unfold dualG; simp] at this
theorem Rib.co_tree (h : Rib r) (hg : genusR r = 0) {T : List Nat} (hT : T ∈ allT r.n.toNat (endsL r.es)) : coT r T ∈ allT (facesR r).length (endsL (dualG r).es) := by
 obtain ⟨h1, h2, h3, h4⟩ := allT_mem.1 hT
 have hl := h.coT_len h2 (up_nodup h1)
 have hf := h.flat hg
 have hlt : ∀ x, x ∈ coT r T → x < (endsL (dualG r).es).length := fun x hx => by rw [h.elen]; exact (comp_mem.1 hx).1
 exact allT_mem.2 ⟨comp_lt _ _, hlt, by omega, conn_tree h.dualIn hlt (by omega) (h.co_conn hT)⟩
theorem Rib.back_tree (h : Rib r) (hg : genusR r = 0) {C : List Nat} (hC : C ∈ allT (facesR r).length (endsL (dualG r).es)) : backT r C ∈ allT r.n.toNat (endsL r.es) := by
 obtain ⟨h1, h2, h3, h4⟩ := allT_mem.1 hC
 have hl := h.backT_len (fun x hx => by rw [← h.elen]; exact h2 x hx) (up_nodup h1)
 have hf := h.flat hg
 have hlt : ∀ x, x ∈ backT r C → x < (endsL r.es).length := fun x hx => (backT_mem.1 hx).1
 exact allT_mem.2 ⟨(range_lt _).filter _, hlt, by omega, conn_tree h.inN hlt (by omega) (h.back_conn hC)⟩
theorem Rib.back_co (h : Rib r) {T : List Nat} (h1 : T.Pairwise (· < ·)) (h2 : ∀ x, x ∈ T → x < (endsL r.es).length) : backT r (coT r T) = T := by
 refine lt_ext ((range_lt _).filter _) h1 fun e => ?_
 rw [backT_mem]
 constructor
 ·rintro ⟨q1, q2⟩
  rw [h.coT_mem h2 q1] at q2
  simpa using q2
 ·intro q
  exact ⟨h2 e q, by rw [h.coT_mem h2 (h2 e q)]; simpa using q⟩
theorem Rib.co_back (h : Rib r) {C : List Nat} (h1 : C.Pairwise (· < ·)) (h2 : ∀ x, x ∈ C → x < (endsL r.es).length) : coT r (backT r C) = C := by
 refine lt_ext (comp_lt _ _) h1 fun y => ?_
 have hb : ∀ x, x ∈ backT r C → x < (endsL r.es).length := fun x hx => (backT_mem.1 hx).1
 constructor
 ·intro q
  obtain ⟨e, he, rfl⟩ := h.nonto (comp_mem.1 q).1
  have := (h.coT_mem hb he).1 q
  rw [backT_mem] at this
  by_cases hx : numN (joinsR r) e ∈ C
  ·exact hx
  ·exact absurd ⟨he, hx⟩ this
 ·intro q
  obtain ⟨e, he, rfl⟩ := h.nonto (h2 y q)
  exact (h.coT_mem hb he).2 fun hm => (backT_mem.1 hm).2 q
theorem map_nodup {α β : Type} {l : List α} {f : α → β} (hl : l.Nodup) (hf : ∀ x y, x ∈ l → y ∈ l → f x = f y → x = y) : (l.map f).Nodup :=
 List.pairwise_map.2 (hl.imp_of_mem fun ha hb hne q => hne (hf _ _ ha hb q))
theorem Rib.same_trees (h : Rib r) (hg : genusR r = 0) : (allT r.n.toNat (endsL r.es)).length = (allT (facesR r).length (endsL (dualG r).es)).length := by
 refine Nat.le_antisymm ?_ ?_
 ·have h1 := List.Nodup.length_le_of_subset (l₁ := (allT r.n.toNat (endsL r.es)).map (coT r)) (l₂ := allT (facesR r).length (endsL (dualG r).es)) (map_nodup (allT_nodup _ _) fun x y hx hy q => by
   obtain ⟨a1, a2, _⟩ := allT_mem.1 hx
   obtain ⟨b1, b2, _⟩ := allT_mem.1 hy
   rw [← h.back_co a1 a2, ← h.back_co b1 b2, q]) (fun C hC => by
   obtain ⟨T, hT, rfl⟩ := List.mem_map.1 hC
   exact h.co_tree hg hT)
  rwa [List.length_map] at h1
 ·have h1 := List.Nodup.length_le_of_subset (l₁ := (allT (facesR r).length (endsL (dualG r).es)).map (backT r)) (l₂ := allT r.n.toNat (endsL r.es)) (map_nodup (allT_nodup _ _) fun x y hx hy q => by
   obtain ⟨a1, a2, _⟩ := allT_mem.1 hx
   obtain ⟨b1, b2, _⟩ := allT_mem.1 hy
   rw [h.elen] at a2 b2
   rw [← h.co_back a1 a2, ← h.co_back b1 b2, q]) (fun T hT => by
   obtain ⟨C, hC, rfl⟩ := List.mem_map.1 hT
   exact h.back_tree hg hC)
  rwa [List.length_map] at h1
end
theorem rsm_dual {r : R} (hf : fewR r = true) : RSm (dualD r) := by
 by_cases he : dualE r = 0
 case neg =>
  unfold dualD; rw [if_pos he]; exact ⟨by decide, by decide, fun l hl => by cases hl⟩
 have hrib : ribE r = 0 := by
  by_cases h : ribE r = 0
  ·exact h
  ·unfold dualE at he; rw [if_pos h] at he; exact absurd he h
 have hr := rok_of hrib
 have hsz := few_size hf hr.c
 have hfl := facesI_len r
 have hfe := facesR_le r
 have e2 : dualD r = ⟨(dualM r).1.n, (dualM r).1.es, dualAr r⟩ := by unfold dualD; rw [if_neg (by omega)]
 rw [e2]
 refine ⟨?_, ?_, ?_⟩
 ·have hm : (dualM r).1.es.length ≤ (joinsR r).length := by
   unfold dualM makeE
   split
   ·simp
   ·split
    ·simp
    ·split
     ·simp
     ·rename_i h3
      have hok : ∀ p, p ∈ joinsR r → okP ((facesR r).length : Int) p := fun p hp => by
       by_cases q : okP ((facesR r).length : Int) p
       ·exact q
       ·exact absurd ⟨p, hp, q⟩ h3
      have hb := bag_ok hok _ (Nat.le_refl _)
      rw [List.take_length] at hb
      split
      ·simp
      ·show (sortE (bagL (joinsR r))).length ≤ _
       rw [(sortE_perm _).length_eq]; exact hb.len
  rw [joinsR_len] at hm
  simp only; omega
 ·simp only
  unfold dualAr
  rw [List.length_map]; omega
 ·intro l hl
  simp only at hl
  unfold dualAr at hl
  obtain ⟨f, hf2, rfl⟩ := List.mem_map.1 hl
  have := facesI_short hr hf2
  rw [turnL_len, List.length_map]; omega
end Go.Proofs.YtfkegnhpihoncaaGreat
