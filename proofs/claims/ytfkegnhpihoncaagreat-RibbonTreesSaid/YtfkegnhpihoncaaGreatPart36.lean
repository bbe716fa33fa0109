/- A part of the proof. -/
import Derived.Test.YtfkegnhpihoncaaGreatPart35
import Derived.Test.YtfkegnhpihoncaaGreatPart34
import Derived.Test.YtfkegnhpihoncaaGreatLayerC
import Derived.Test.YtfkegnhpihoncaaGreatPart15
import Derived.Test.YtfkegnhpihoncaaGreatPart32
import Derived.Test.YtfkegnhpihoncaaGreatPart08
import Derived.Test.YtfkegnhpihoncaaGreatPart11
set_option linter.all false
set_option maxHeartbeats 4000000
set_option maxRecDepth 100000
namespace Go.Proofs.YtfkegnhpihoncaaGreat
open Go.Sp
theorem pkN_len (L : List (Int × Int)) (T : List Nat) : (pkN L T).length = T.length := by simp [pkN]
theorem pkN_app (L : List (Int × Int)) (A B : List Nat) : pkN L (A ++ B) = pkN L A ++ pkN L B := by simp [pkN]
theorem pkN_in {n : Nat} {L : List (Int × Int)} {T : List Nat} (hL : InN n L) (ht : ∀ x, x ∈ T → x < L.length) : InN n (pkN L T) := fun p hp => by
 obtain ⟨x, hx, rfl⟩ := List.mem_map.1 hp
 rw [List.getD_eq_getElem?_getD, List.getElem?_eq_getElem (ht x hx)]
 exact hL _ (List.getElem_mem _)
open Classical in
noncomputable def growS (n : Nat) (L : List (Int × Int)) : Nat → List Nat → Nat → List (List Nat)
 | 0, t, _ => if t.length + 1 = n then [t] else []
 | k + 1, t, e => if t.length + 1 = n then [t] else (if acyc (pkN L (t ++ [e])) then growS n L k (t ++ [e]) (e + 1) else []) ++ growS n L k t (e + 1)
theorem growS_mem {n : Nat} {L : List (Int × Int)} : ∀ {k : Nat} {t : List Nat} {e : Nat} {T : List Nat}, acyc (pkN L t) →
  (T ∈ growS n L k t e ↔ ∃ s, T = t ++ s ∧ s.Pairwise (· < ·) ∧ (∀ x, x ∈ s → e ≤ x ∧ x < e + k) ∧ T.length + 1 = n ∧ acyc (pkN L T)) := by
 intro k
 induction k with
 | zero =>
  intro t e T ha
  unfold growS
  constructor
  ·intro h
   split at h
   ·rename_i hl
    rw [List.mem_singleton] at h
    subst h
    exact ⟨[], by simp, .nil, by simp, hl, ha⟩
   ·cases h
  ·rintro ⟨s, rfl, _, h2, h3, _⟩
   have : s = [] := by
    cases s with
    | nil => rfl
    | cons x s => have := h2 x (by simp); omega
   subst this
   rw [List.append_nil] at h3 ⊢
   rw [if_pos h3]; simp
 | succ k ih =>
  intro t e T ha
  unfold growS
  by_cases hl : t.length + 1 = n
  ·rw [if_pos hl, List.mem_singleton]
   constructor
   ·rintro rfl
    exact ⟨[], by simp, .nil, by simp, hl, ha⟩
   ·rintro ⟨s, rfl, _, _, h3, _⟩
    have : s.length = 0 := by rw [List.length_append] at h3; omega
    rw [List.length_eq_zero_iff.1 this, List.append_nil]
  ·rw [if_neg hl, List.mem_append, ih ha]
   constructor
   ·rintro (h | ⟨s, h1, h2, h3, h4, h5⟩)
    ·split at h
     ·rename_i hc
      obtain ⟨s, h1, h2, h3, h4, h5⟩ := (ih hc).1 h
      refine ⟨e :: s, by rw [h1]; simp, List.pairwise_cons.2 ⟨fun x hx => by have := (h3 x hx).1; omega, h2⟩, fun x hx => ?_, h4, h5⟩
      rcases List.mem_cons.1 hx with rfl | hx
      ·omega
      ·have := h3 x hx; omega
     ·cases h
    ·exact ⟨s, h1, h2, fun x hx => by have := h3 x hx; omega, h4, h5⟩
   ·rintro ⟨s, rfl, h2, h3, h4, h5⟩
    cases s with
    | nil => exact absurd (by simpa using h4) hl
    | cons x s =>
     by_cases hx : x = e
     ·subst hx
      left
      have hc : acyc (pkN L (t ++ [x])) := by
       rw [show t ++ x :: s = (t ++ [x]) ++ s by simp, pkN_app] at h5
       exact acyc_pre h5
      rw [if_pos hc]
      refine (ih hc).2 ⟨s, by simp, (List.pairwise_cons.1 h2).2, fun y hy => ?_, h4, h5⟩
      have := (List.pairwise_cons.1 h2).1 y hy
      have := h3 y (by simp [hy])
      omega
     ·right
      refine ⟨x :: s, rfl, h2, fun y hy => ?_, h4, h5⟩
      have h6 := h3 x (by simp)
      have h7 := h3 y hy
      rcases List.mem_cons.1 hy with rfl | hy
      ·omega
      ·have := (List.pairwise_cons.1 h2).1 y hy; omega
theorem growS_nodup {n : Nat} {L : List (Int × Int)} : ∀ {k : Nat} {t : List Nat} {e : Nat}, acyc (pkN L t) → (growS n L k t e).Nodup := by
 intro k
 induction k with
 | zero => intro t e _; unfold growS; split <;> simp
 | succ k ih =>
  intro t e ha
  unfold growS
  split
  ·simp
  ·refine List.nodup_append.2 ⟨?_, ih ha, fun A hA B hB => ?_⟩
   ·split
    ·rename_i hc; exact ih hc
    ·simp
   ·rintro rfl
    split at hA
    ·rename_i hc
     obtain ⟨s, h1, _⟩ := (growS_mem hc).1 hA
     obtain ⟨s', h2, _, h3, _⟩ := (growS_mem ha).1 hB
     rw [h1, List.append_assoc] at h2
     have h4 := List.append_cancel_left h2
     have := h3 e (by rw [← h4]; simp)
     omega
    ·cases hA
theorem ncls_whole {n : Nat} {R : Nat → Nat → Prop} (h0 : 0 < n) (h : ∀ x y, x < n → y < n → R x y) : ncls n R = 1 := by
 rw [ncls_congr (S := fun x y => (fun _ : Nat => 0) x = (fun _ : Nat => 0) y) fun x y hx hy => ⟨fun _ => rfl, fun _ => h x y hx hy⟩]
 exact ncls_onto _ (fun x _ => by omega) fun v hv => ⟨0, h0, by omega⟩
theorem growS_nil {n : Nat} {L : List (Int × Int)} (h0 : 0 < n) (hL : InN n L) {k : Nat} {t : List Nat} {e : Nat} (ha : acyc (pkN L t)) (ht : ∀ x, x ∈ t → x < L.length) (he : e + k = L.length)
  (hn : ncls n (Conn (pkN L t ++ L.drop e)) ≠ 1) : growS n L k t e = [] := by
 refine List.eq_nil_iff_forall_not_mem.2 fun T hT => hn ?_
 obtain ⟨s, rfl, h2, h3, h4, h5⟩ := (growS_mem ha).1 hT
 have hin : ∀ x, x ∈ t ++ s → x < L.length := fun x hx => by
  rcases List.mem_append.1 hx with hx | hx
  ·exact ht x hx
  ·have := h3 x hx; omega
 have h6 := (ncls_len (n := n) (pkN L (t ++ s)) (pkN_in hL hin)).2.1 h5
 rw [pkN_len] at h6
 have h7 : ncls n (Conn (pkN L (t ++ s))) = 1 := by omega
 refine ncls_whole h0 fun x y hx hy => ?_
 refine conn_sub (l := pkN L (t ++ s)) (fun u w hu => .inl ?_) (ncls_one (conn_eqv n _) h7 hx hy)
 rw [pkN_app] at hu
 rcases List.mem_append.1 hu with hu | hu
 ·exact List.mem_append_left _ hu
 ·refine List.mem_append_right _ ?_
  obtain ⟨i, hi, hp⟩ := List.mem_map.1 hu
  have hb := h3 i hi
  rw [List.getD_eq_getElem?_getD, List.getElem?_eq_getElem (show i < L.length by omega), Option.getD_some] at hp
  rw [← hp]
  refine List.mem_iff_getElem?.2 ⟨i - e, ?_⟩
  rw [List.getElem?_drop, show e + (i - e) = i by omega]
  exact List.getElem?_eq_getElem _
def cntF (n : Nat) (F : List Nat) : Nat := ((List.range n).filter fun v => decide (F[v]? = some v)).length
structure TD (n : Nat) (M : List (Int × Int)) (F : List Nat) (rt dp : Nat → Nat) : Prop where
 tc : TC M F rt dp
 lt : ∀ v, v < n → rt v < n
 cnt : cntF n F = ncls n (Conn M)
def TDe (n : Nat) (M : List (Int × Int)) (F : List Nat) : Prop := ∃ rt dp, TD n M F rt dp
theorem conn_lt {n : Nat} {M : List (Int × Int)} (hM : InN n M) {u w : Nat} (h : Conn M u w) (hu : u < n) : w < n := by
 induction h with
 | refl => exact hu
 | step _ hs _ =>
  rcases hs with hs | hs
  ·have := (hM _ hs).2.2; simp only at this; omega
  ·have := (hM _ hs).1.2; simp only at this; omega
theorem TD.of {n : Nat} {M : List (Int × Int)} {F : List Nat} {rt dp : Nat → Nat} (tc : TC M F rt dp) (hn : n ≤ 12) (hM : InN n M) (hc : cntF n F = ncls n (Conn M)) : TD n M F rt dp :=
 ⟨tc, fun v hv => conn_lt hM ((tc.conn v (rt v) (by omega) (tc.tf.rlt v (by omega))).1 (tc.tf.idem (by omega)).symm) hv, hc⟩
theorem TDe.of {n : Nat} {M : List (Int × Int)} {F : List Nat} (tc : TCe M F) (hn : n ≤ 12) (hM : InN n M) (hc : cntF n F = ncls n (Conn M)) : TDe n M F := by
 obtain ⟨rt, dp, tc⟩ := tc
 exact ⟨rt, dp, TD.of tc hn hM hc⟩
theorem TDe.zero (n : Nat) (hn : n ≤ 12) : TDe n [] (List.range 12) := by
 refine TDe.of TCe.zero hn (fun p hp => by simp at hp) ?_
 rw [conn_nil_ncls]
 unfold cntF
 rw [List.filter_eq_self.2 (fun v hv => by
  have : v < 12 := by have := List.mem_range.1 hv; omega
  simp [this]), List.length_range]
theorem TD.snoc {n : Nat} {M : List (Int × Int)} {F : List Nat} {rt dp : Nat → Nat} (h : TD n M F rt dp) {a b : Nat} (hn : n ≤ 12) (hM : InN n M) (ha : a < n) (hb : b < n) :
  TDe n (M ++ [((a : Int), (b : Int))]) (F.set (rt a) (rt b)) := by
 refine TDe.of (h.tc.snoc (by omega) (by omega)) hn (fun p hp => ?_) ?_
 ·rcases List.mem_append.1 hp with hp | hp
  ·exact hM p hp
  ·rw [List.mem_singleton] at hp; subst hp; simp only; omega
 ·have hcn := h.tc.conn a b (by omega) (by omega)
  by_cases e : rt a = rt b
  ·rw [h.tc.tf.stay (by omega) e, ncls_snoc_in (hcn.1 e)]
   exact h.cnt
  ·have h1 := ncls_snoc_new (n := n) ha hb (fun h => e (hcn.2 h))
   have hfa := h.tc.tf.fix a (by omega)
   have hla := h.lt a ha
   have h2 := filter_minus (l := List.range n) (p := fun v => decide (F[v]? = some v)) (q := fun v => decide ((F.set (rt a) (rt b))[v]? = some v)) (m := rt a) List.nodup_range (List.mem_range.2 hla) (by simp [hfa]) (fun x hx => by
    by_cases hxa : x = rt a
    ·subst hxa
     rw [List.getElem?_set_self (by rw [h.tc.tf.len]; omega)]
     simp [Ne.symm e]
    ·rw [List.getElem?_set_ne (Ne.symm hxa)]
     simp [hxa])
   have h3 := h.cnt
   unfold cntF at h3 ⊢
   omega
end Go.Proofs.YtfkegnhpihoncaaGreat
namespace Go.Proofs.YtfkegnhpihoncaaGreat
open Go.Sp
def ofF (r : R) (x : Nat) : Int := ofN (fR (endsL r.es) r.ar) (2 * (endsL r.es).length) (2 * (endsL r.es).length) x
def joinsR (r : R) : List (Int × Int) := (List.range (endsL r.es).length).map fun i => (ofF r (2 * i), ofF r (2 * i + 1))
noncomputable def dualM (r : R) : G × Int := makeE (facesR r).length (joinsR r)
noncomputable def dualE (r : R) : Int := if ribE r ≠ 0 then ribE r else if 12 < (facesR r).length then 5 else (dualM r).2
def dualH (O N : List Int) (x : Int) : Int :=
 2 * N.getD (x.toNat / 2) 0 + (if O.getD (oppH x.toNat) 0 < O.getD x.toNat 0 ∨ (O.getD x.toNat 0 = O.getD (oppH x.toNat) 0 ∧ x.toNat % 2 = 1) then 1 else 0)
def dualAr (r : R) : List (List Int) := (facesI r).map fun l => turnL (l.map (dualH (tabI (2 * (endsL r.es).length) (ofF r)) (numI (joinsR r))))
noncomputable def dualD (r : R) : R := if dualE r ≠ 0 then ⟨0, [], []⟩ else ⟨(dualM r).1.n, (dualM r).1.es, dualAr r⟩
noncomputable def dualN (r : R) : List Int := if dualE r ≠ 0 then [] else numI (joinsR r)
theorem joinsR_len (r : R) : (joinsR r).length = (endsL r.es).length := by simp [joinsR]
theorem numI_len (L : List (Int × Int)) : (numI L).length = L.length := tabI_len _ _
theorem numI_range (L : List (Int × Int)) {v : Int} (h : v ∈ numI L) : 0 ≤ v ∧ v ≤ L.length := by
 obtain ⟨e, _, rfl⟩ := List.mem_map.1 h
 refine ⟨by omega, ?_⟩
 have := List.length_filter_le (fun f => decide (ltN L f e)) (List.range L.length)
 rw [List.length_range] at this
 omega
def jK (O : List Int) (m k : Nat) : List (Int × Int) := (List.range m).map fun i => if i < k then (O.getD (2 * i) 0, O.getD (2 * i + 1) 0) else (0, 0)
theorem jK_len (O : List Int) (m k : Nat) : (jK O m k).length = m := by simp [jK]
theorem jK_get {O : List Int} {m k i : Nat} (h : i < m) : (jK O m k)[i]? = some (if i < k then (O.getD (2 * i) 0, O.getD (2 * i + 1) 0) else (0, 0)) := by simp [jK, h]
theorem jK_step {O : List Int} {m k : Nat} (hk : k < m) : (jK O m k).set k (O.getD (2 * k) 0, O.getD (2 * k + 1) 0) = jK O m (k + 1) := by
 apply List.ext_getElem?
 intro i
 by_cases hi : i < m
 ·rw [jK_get hi]
  by_cases e : k = i
  ·subst e
   rw [List.getElem?_set_self (by rw [jK_len]; exact hk), if_pos (by omega)]
  ·rw [List.getElem?_set_ne e, jK_get hi]
   by_cases h1 : i < k
   ·rw [if_pos h1, if_pos (by omega)]
   ·rw [if_neg h1, if_neg (by omega)]
 ·rw [List.getElem?_eq_none (by rw [List.length_set, jK_len]; omega), List.getElem?_eq_none (by rw [jK_len]; omega)]
theorem made_pairs : ∀ m : Nat, madeA [ACell.int .i64 0, ACell.int .i64 0] m = pC (List.replicate m (0, 0))
 | 0 => rfl
 | m + 1 => by
  have ih := made_pairs m
  unfold madeA pC at ih ⊢
  rw [List.replicate_succ, List.replicate_succ, List.flatten_cons, List.flatMap_cons, ih]
theorem jK_zero (O : List Int) (m : Nat) : madeA [ACell.int .i64 0, ACell.int .i64 0] m = pC (jK O m 0) := by
 have e : jK O m 0 = List.replicate m (0, 0) := by
  unfold jK
  rw [List.eq_replicate_iff]
  exact ⟨by simp, fun x hx => by obtain ⟨i, _, rfl⟩ := List.mem_map.1 hx; rw [if_neg (by omega)]⟩
 rw [e]; exact made_pairs m
theorem jK_all (r : R) : jK (tabI (2 * (endsL r.es).length) (ofF r)) (endsL r.es).length (endsL r.es).length = joinsR r := by
 unfold jK joinsR
 refine List.map_congr_left fun i hi => ?_
 have hi' := List.mem_range.1 hi
 rw [if_pos hi', List.getD_eq_getElem?_getD, tabI_get _ (by omega), List.getD_eq_getElem?_getD, tabI_get _ (by omega)]; rfl
theorem facesI_mem {r : R} (hr : ROk r) {l : List Int} (hl : l ∈ facesI r) {x : Int} (hx : x ∈ l) : 0 ≤ x ∧ x < 2 * ((endsL r.es).length : Int) := by
 unfold facesI facesR at hl
 obtain ⟨a, ha, rfl⟩ := List.mem_map.1 hl
 obtain ⟨b, hb, rfl⟩ := List.mem_map.1 hx
 split at ha
 ·simp at ha; subst ha; cases hb
 ·obtain ⟨c, hc, rfl⟩ := List.mem_map.1 ha
  have h1 := (leadsL_mem.1 hc).1
  have := face_lt hr.perm h1 hb
  omega
theorem facesI_short {r : R} (hr : ROk r) {l : List Int} (hl : l ∈ facesI r) : l.length ≤ 2 * (endsL r.es).length := by
 unfold facesI facesR at hl
 obtain ⟨a, ha, rfl⟩ := List.mem_map.1 hl
 rw [natI_len]
 split at ha
 ·simp at ha; subst ha; simp
 ·obtain ⟨c, hc, rfl⟩ := List.mem_map.1 ha
  exact face_len hr.perm (leadsL_mem.1 hc).1
end Go.Proofs.YtfkegnhpihoncaaGreat
