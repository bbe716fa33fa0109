/- A part of the proof: contracts of functions of the program, or plain lemmas. -/
import Derived.Test.YtbdpkgckdkpepaaG38
import Derived.Test.YtbdpkgckdkpepaaG34
import Derived.Test.YtbdpkgckdkpepaaG22
set_option linter.all false
namespace Go.Proofs.Ytbdpkgckdkpepaa
open Go.Sp
set_option linter.unusedSimpArgs false
set_option linter.unusedVariables false
theorem renGo_nodup {n : Int} : ∀ {l p : List Int}, renGo n p l = 0 → l.Nodup ∧ ∀ x, x ∈ l → ¬ x ∈ p
  | [], _, _ => ⟨List.nodup_nil, fun x hx => by cases hx⟩
  | v :: l, p, h => by
    simp only [renGo] at h
    split at h
    · omega
    · split at h
      · omega
      · rename_i hv
        obtain ⟨h1, h2⟩ := renGo_nodup h
        refine ⟨List.nodup_cons.2 ⟨fun hm => h2 v hm (by simp), h1⟩, fun x hx => ?_⟩
        rcases List.mem_cons.1 hx with rfl | hx
        · exact hv
        · exact fun hp => h2 x hx (by simp [hp])
theorem renGo_zero {n : Int} : ∀ {l p : List Int}, (∀ x, x ∈ l → 0 ≤ x ∧ x < n) → l.Nodup → (∀ x, x ∈ l → ¬ x ∈ p) → renGo n p l = 0
  | [], _, _, _, _ => rfl
  | v :: l, p, h1, h2, h3 => by
    have hn := List.nodup_cons.1 h2
    simp only [renGo]
    rw [if_neg (by have := h1 v (by simp); omega), if_neg (h3 v (by simp))]
    refine renGo_zero (fun x hx => h1 x (by simp [hx])) hn.2 fun x hx hp => ?_
    rcases List.mem_append.1 hp with hp | hp
    · exact h3 x (by simp [hx]) hp
    · obtain rfl := List.mem_singleton.1 hp
      exact hn.1 hx
def piF (l : List Int) (v : Int) : Int := l.getD v.toNat 0
theorem piF_get {l : List Int} {v : Int} (h : 0 ≤ v ∧ v < l.length) : l[v.toNat]? = some (piF l v) := by
  unfold piF; rw [List.getD_eq_getElem?_getD, List.getElem?_eq_getElem (by omega)]; rfl
/-- A right renaming of n vertices. -/
structure PermL (n : Nat) (l : List Int) : Prop where
  len : l.length = n
  rng : ∀ x, x ∈ l → 0 ≤ x ∧ x < n
  nd : l.Nodup
theorem permL_of {n : Nat} {l : List Int} (h : rnmE n l = 0) : PermL n l := by
  unfold rnmE at h
  split at h
  · omega
  · exact ⟨by omega, fun x hx => renGo_range h x hx, (renGo_nodup h).1⟩
theorem permL_ren {n : Nat} {l : List Int} (h : PermL n l) : rnmE n l = 0 := by
  unfold rnmE
  rw [if_neg (by have := h.len; omega)]
  exact renGo_zero h.rng h.nd (fun _ _ => by simp)
theorem PermL.inj {n : Nat} {l : List Int} (h : PermL n l) {u v : Int} (hu : 0 ≤ u ∧ u < n) (hv : 0 ≤ v ∧ v < n) (e : piF l u = piF l v) : u = v := by
  have h1 := piF_get (l := l) (v := u) (by rw [h.len]; exact hu)
  have h2 := piF_get (l := l) (v := v) (by rw [h.len]; exact hv)
  obtain ⟨q1, e1⟩ := List.getElem?_eq_some_iff.1 h1
  obtain ⟨q2, e2⟩ := List.getElem?_eq_some_iff.1 h2
  have hp := List.pairwise_iff_getElem.1 h.nd
  rcases Nat.lt_trichotomy u.toNat v.toNat with h3 | h3 | h3
  · exact absurd (e1.trans (e.trans e2.symm)) (hp _ _ q1 q2 h3)
  · omega
  · exact absurd (e2.trans (e.symm.trans e1.symm)) (hp _ _ q2 q1 h3)
theorem PermL.rng' {n : Nat} {l : List Int} (h : PermL n l) {u : Int} (hu : 0 ≤ u ∧ u < n) : 0 ≤ piF l u ∧ piF l u < n :=
  h.rng _ (List.mem_of_getElem? (piF_get (by rw [h.len]; exact hu)))
theorem PermL.surj {n : Nat} {l : List Int} (h : PermL n l) {w : Int} (hw : 0 ≤ w ∧ w < n) : ∃ v : Int, (0 ≤ v ∧ v < n) ∧ piF l v = w := by
  by_cases hm : w ∈ l
  · obtain ⟨i, hi, e⟩ := List.mem_iff_getElem.1 hm
    have := h.len
    refine ⟨(i : Int), by omega, ?_⟩
    unfold piF
    rw [Int.toNat_natCast, List.getD_eq_getElem?_getD, List.getElem?_eq_getElem hi]
    exact e
  · exfalso
    let R : List Int := (List.range n).map fun (i : Nat) => (i : Int)
    have hR : ∀ x : Int, x ∈ R ↔ 0 ≤ x ∧ x < n := fun x => by
      simp only [R, List.mem_map, List.mem_range]
      exact ⟨fun ⟨i, hi, e⟩ => by omega, fun hx => ⟨x.toNat, by omega, by omega⟩⟩
    have h1 : l.length ≤ (R.filter fun x => decide (x ≠ w)).length := h.nd.length_le_of_subset fun x hx => by
      rw [List.mem_filter, hR]
      exact ⟨h.rng x hx, decide_eq_true fun e : x = w => hm (by rw [← e]; exact hx)⟩
    have h2 : (R.filter fun x => decide (x ≠ w)).length < R.length := List.length_filter_lt_length_iff_exists.2 ⟨w, (hR w).2 hw, by simp⟩
    have h3 : R.length = n := by simp [R]
    have := h.len
    omega
/-- The renaming back. -/
def backN (l : List Int) (n k : Nat) : List Int := (List.range k).foldl (fun B i => B.set (piF l (i : Nat)).toNat ((i : Nat) : Int)) (List.replicate n 0)
theorem backN_succ (l : List Int) (n k : Nat) : backN l n (k + 1) = (backN l n k).set (piF l k).toNat (k : Int) := foldl_range_succ _ _ _
theorem backN_len (l : List Int) (n k : Nat) : (backN l n k).length = n := by
  induction k with
  | zero => simp [backN]
  | succ k ih => rw [backN_succ]; simpa using ih
theorem backN_spec {n : Nat} {l : List Int} (h : PermL n l) : ∀ k, k ≤ n → ∀ i : Nat, i < k → piF (backN l n k) (piF l i) = i := by
  intro k
  induction k with
  | zero => intro _ i hi; omega
  | succ k ih =>
    intro hk i hi
    have hr := h.rng' (u := i) (by omega)
    have hrk := h.rng' (u := k) (by omega)
    unfold piF at hr hrk ⊢
    rw [backN_succ, List.getD_eq_getElem?_getD]
    by_cases e : i = k
    · subst e
      rw [show (piF l (i : Int)).toNat = (l.getD (i : Int).toNat 0).toNat from rfl, List.getElem?_set_self (by rw [backN_len]; omega)]; rfl
    · have hne : (piF l (k : Int)).toNat ≠ (l.getD (i : Int).toNat 0).toNat := fun x => e (by
        have := h.inj (u := k) (v := i) (by omega) (by omega) (by unfold piF; unfold piF at x; omega)
        omega)
      rw [List.getElem?_set_ne hne, ← List.getD_eq_getElem?_getD]
      exact ih (by omega) i (by omega)
theorem back_perm {n : Nat} {l : List Int} (h : PermL n l) : PermL n (backN l n n) ∧ (∀ v : Int, 0 ≤ v ∧ v < n → piF (backN l n n) (piF l v) = v) ∧ (∀ w : Int, 0 ≤ w ∧ w < n → piF l (piF (backN l n n) w) = w) := by
  have hs : ∀ v : Int, 0 ≤ v ∧ v < n → piF (backN l n n) (piF l v) = v := fun v hv => by
    have := backN_spec h n (Nat.le_refl _) v.toNat (by omega)
    rwa [show ((v.toNat : Nat) : Int) = v by omega] at this
  have hlen := backN_len l n n
  have hinv : ∀ w : Int, 0 ≤ w ∧ w < n → (0 ≤ piF (backN l n n) w ∧ piF (backN l n n) w < n) ∧ piF l (piF (backN l n n) w) = w := fun w hw => by
    obtain ⟨v, hv, rfl⟩ := h.surj hw
    rw [hs v hv]; exact ⟨hv, rfl⟩
  refine ⟨⟨hlen, fun x hx => ?_, ?_⟩, hs, fun w hw => (hinv w hw).2⟩
  · obtain ⟨i, hi, e⟩ := List.mem_iff_getElem.1 hx
    have := (hinv (i : Int) (by omega)).1
    unfold piF at this
    rw [Int.toNat_natCast, List.getD_eq_getElem?_getD, List.getElem?_eq_getElem hi] at this
    rw [← e]; exact this
  · rw [List.Nodup, List.pairwise_iff_getElem]
    intro i j hi hj hij e
    have h1 := (hinv (i : Int) (by omega)).2
    have h2 := (hinv (j : Int) (by omega)).2
    have e1 : piF (backN l n n) (i : Int) = piF (backN l n n) (j : Int) := by
      unfold piF
      rw [Int.toNat_natCast, Int.toNat_natCast, List.getD_eq_getElem?_getD, List.getD_eq_getElem?_getD, List.getElem?_eq_getElem hi, List.getElem?_eq_getElem hj, e]
    rw [e1, h2] at h1
    omega
/-! The renamed graph. -/
def nrm (F : Int → Int) (x : E) : E := ⟨min (F x.a) (F x.b), max (F x.a) (F x.b), x.m⟩
theorem mov_acc2 {F : Int → Int} : ∀ (es acc : List E), (∀ x, x ∈ es → 0 ≤ F x.a ∧ 0 ≤ F x.b) → es.Pairwise (fun x y => neE (nrm F x) (nrm F y)) → (∀ y, y ∈ acc → ∀ x, x ∈ es → neE y (nrm F x)) → es.foldl (movStep F) acc = acc ++ es.map (nrm F)
  | [], acc, _, _, _ => by simp
  | x :: xs, acc, h1, h2, h3 => by
    have hp := List.pairwise_cons.1 h2
    have e : movStep F acc x = acc ++ [nrm F x] := by
      unfold movStep
      rw [if_pos (h1 x (by simp)), bagPut_new fun y hy => ?_]
      · rfl
      · have := h3 y hy x (by simp)
        unfold neE nrm at this; exact this
    rw [List.foldl_cons, e, mov_acc2 xs _ (fun y hy => h1 y (by simp [hy])) hp.2 (fun y hy z hz => ?_)]
    · simp
    · rcases List.mem_append.1 hy with hy | hy
      · exact h3 y hy z (by simp [hz])
      · obtain rfl := List.mem_singleton.1 hy
        exact hp.1 z hz
structure Ren (g h : G) (n : Nat) (F : Int → Int) : Prop where
  c : checkG g = 0
  nn : g.n = n
  c' : checkG h = 0
  nn' : h.n = n
  rng : ∀ v : Int, 0 ≤ v ∧ v < n → 0 ≤ F v ∧ F v < n
  inj : ∀ u v : Int, 0 ≤ u ∧ u < n → 0 ≤ v ∧ v < n → F u = F v → u = v
  perm : h.es.Perm (g.es.map (nrm F))
theorem ren_of {g : G} {n : Nat} {l : List Int} (hc : checkG g = 0) (hn : g.n = n) (hp : PermL n l) : relE g l = 0 ∧ Ren g (relG g l) n (piF l) := by
  have hE : relE g l = 0 := by unfold relE; rw [if_neg (by omega), hn, permL_ren hp]
  obtain ⟨h1, h2, h3⟩ := checkG_zero.1 hc
  have hrg : ∀ x, x ∈ g.es → (0 ≤ x.a ∧ x.a < n) ∧ (0 ≤ x.b ∧ x.b < n) ∧ x.a ≤ x.b ∧ 1 ≤ x.m ∧ x.m ≤ 50 := fun x hx => by have := h2 x hx; unfold okE at this; omega
  have hdis : g.es.Pairwise (fun x y => neE (nrm (piF l) x) (nrm (piF l) y)) := by
    have h4 : g.es.Pairwise (fun x y => neE x y ∧ x ∈ g.es ∧ y ∈ g.es) := by
      rw [List.pairwise_iff_getElem]
      intro i j hi hj hij
      exact ⟨List.pairwise_iff_getElem.1 (distinct_of h3) i j hi hj hij, List.getElem_mem hi, List.getElem_mem hj⟩
    refine h4.imp ?_
    rintro x y ⟨h5, hx, hy⟩
    have q1 := hrg x hx
    have q2 := hrg y hy
    unfold neE nrm at *
    simp only
    intro hh
    have hcase : (piF l x.a = piF l y.a ∧ piF l x.b = piF l y.b) ∨ (piF l x.a = piF l y.b ∧ piF l x.b = piF l y.a) := by omega
    rcases hcase with ⟨ea, eb⟩ | ⟨ea, eb⟩
    · have := hp.inj q1.1 q2.1 ea
      have := hp.inj q1.2.1 q2.2.1 eb
      omega
    · have := hp.inj q1.1 q2.2.1 ea
      have := hp.inj q1.2.1 q2.1 eb
      omega
  have hmov : movL (fun v => l.getD v.toNat 0) g.es = g.es.map (nrm (piF l)) := by
    have := mov_acc2 (F := piF l) g.es [] (fun x hx => by have := hrg x hx; exact ⟨(hp.rng' this.1).1, (hp.rng' this.2.1).1⟩) hdis (fun y hy => by cases hy)
    exact this
  have hdm : distinctE (g.es.map (nrm (piF l))) := by unfold distinctE; rw [List.pairwise_map]; exact hdis
  have hG : relG g l = ⟨g.n, sortE (g.es.map (nrm (piF l)))⟩ := by unfold relG; rw [if_neg (by rw [hE]; simp), hmov]
  have hperm : (sortE (g.es.map (nrm (piF l)))).Perm (g.es.map (nrm (piF l))) := sortE_perm _
  refine ⟨hE, ⟨hc, hn, ?_, by rw [hG]; exact hn, fun v hv => hp.rng' hv, fun u v hu hv => hp.inj hu hv, by rw [hG]; exact hperm⟩⟩
  rw [hG, checkG_zero]
  refine ⟨h1, fun e he => ?_, sortE_sorted hdm⟩
  obtain ⟨x, hx, rfl⟩ := List.mem_map.1 (hperm.mem_iff.1 he)
  have := hrg x hx
  have r1 := hp.rng' this.1
  have r2 := hp.rng' this.2.1
  unfold okE nrm
  simp only; omega
theorem nrm_back {F S : Int → Int} {x : E} (h : x.a ≤ x.b) (ha : S (F x.a) = x.a) (hb : S (F x.b) = x.b) : nrm S (nrm F x) = x := by
  obtain ⟨a, b, m⟩ := x
  simp only [nrm] at *
  rcases Int.le_total (F a) (F b) with h1 | h1
  · rw [Int.min_eq_left h1, Int.max_eq_right h1, ha, hb, Int.min_eq_left h, Int.max_eq_right h]
  · rw [Int.min_eq_right h1, Int.max_eq_left h1, ha, hb, Int.min_comm, Int.max_comm, Int.min_eq_left h, Int.max_eq_right h]
theorem ren_back {g h k : G} {n : Nat} {F S : Int → Int} (h1 : Ren g h n F) (h2 : Ren h k n S) (hS : ∀ v : Int, 0 ≤ v ∧ v < n → S (F v) = v) : k = g := by
  have hp : k.es.Perm g.es := by
    refine h2.perm.trans ((h1.perm.map _).trans ?_)
    rw [List.map_map]
    have : g.es.map (nrm S ∘ nrm F) = g.es.map id := List.map_congr_left fun x hx => by
      have := (checkG_zero.1 h1.c).2.1 x hx
      have hn := h1.nn
      unfold okE at this
      exact nrm_back (by omega) (hS _ (by omega)) (hS _ (by omega))
    rw [this, List.map_id]
  have hes := sorted_unique (checkG_zero.1 h2.c').2.2 (checkG_zero.1 h1.c).2.2 hp
  have e1 := h1.nn
  have e2 := h2.nn'
  cases k; cases g
  simp only at *
  subst hes
  rw [e1, e2]
theorem endsL_perm {a b : List E} (h : a.Perm b) : (endsL a).Perm (endsL b) := h.flatMap_right _
theorem ren_size {g h : G} {n : Nat} {F : Int → Int} (hr : Ren g h n F) : (endsL h.es).length = (endsL g.es).length := by
  rw [(endsL_perm hr.perm).length_eq]
  generalize g.es = es
  induction es with
  | nil => rfl
  | cons x xs ih => rw [List.map_cons, endsL_cons, endsL_cons, List.length_append, List.length_append, ih]; simp [nrm]
theorem degL_perm {v : Int} {a b : List (Int × Int)} (h : a.Perm b) : degL v a = degL v b := by
  induction h with
  | nil => rfl
  | cons x _ ih => simp only [degL, ih]
  | swap x y l => simp only [degL]; omega
  | trans _ _ h1 h2 => exact h1.trans h2
theorem ren_deg {g h : G} {n : Nat} {F : Int → Int} (hr : Ren g h n F) {v : Int} (hv : 0 ≤ v ∧ v < n) : degL (F v) (endsL h.es) = degL v (endsL g.es) := by
  rw [degL_perm (endsL_perm hr.perm)]
  have hm : ∀ x, x ∈ g.es → (0 ≤ x.a ∧ x.a < n) ∧ (0 ≤ x.b ∧ x.b < n) := fun x hx => by
    have := (checkG_zero.1 hr.c).2.1 x hx
    have hn := hr.nn
    unfold okE at this; omega
  generalize g.es = es at hm
  induction es with
  | nil => rfl
  | cons x xs ih =>
    have hx := hm x (by simp)
    rw [List.map_cons, endsL_cons, endsL_cons, degL_append, degL_append, degL_rep, degL_rep, ih fun y hy => hm y (by simp [hy])]
    have key : b2i ((nrm F x).a = F v) + b2i ((nrm F x).b = F v) = b2i (x.a = v) + b2i (x.b = v) := by
      have f1 : F x.a = F v ↔ x.a = v := ⟨fun e => hr.inj _ _ hx.1 hv e, fun e => by rw [e]⟩
      have f2 : F x.b = F v ↔ x.b = v := ⟨fun e => hr.inj _ _ hx.2 hv e, fun e => by rw [e]⟩
      have g1 : b2i (F x.a = F v) = b2i (x.a = v) := by unfold b2i; split <;> split <;> simp_all
      have g2 : b2i (F x.b = F v) = b2i (x.b = v) := by unfold b2i; split <;> split <;> simp_all
      rw [← g1, ← g2]
      unfold nrm
      simp only
      rcases Int.le_total (F x.a) (F x.b) with h1 | h1
      · rw [Int.min_eq_left h1, Int.max_eq_right h1]
      · rw [Int.min_eq_right h1, Int.max_eq_left h1]; omega
    rw [key]; rfl
theorem ren_conn {g h : G} {n : Nat} {F : Int → Int} (hr : Ren g h n F) {u w : Nat} (hc : Conn (endsL g.es) u w) : Conn (endsL h.es) (F u).toNat (F w).toNat := by
  induction hc with
  | refl => exact .refl
  | step _ hh ih =>
    rename_i b c _
    refine ih.trans (Conn.one ?_)
    have key : ∀ x y : Int, (x, y) ∈ endsL g.es → ((((F x).toNat : Nat) : Int), (((F y).toNat : Nat) : Int)) ∈ endsL h.es ∨ ((((F y).toNat : Nat) : Int), (((F x).toNat : Nat) : Int)) ∈ endsL h.es := fun x y hxy => by
      have hb := ends_in hr.c hr.nn _ hxy
      simp only at hb
      have r1 := hr.rng x hb.1
      have r2 := hr.rng y hb.2
      rw [show (((F x).toNat : Nat) : Int) = F x by omega, show (((F y).toNat : Nat) : Int) = F y by omega]
      obtain ⟨e, he, hx⟩ := List.mem_flatMap.1 hxy
      obtain ⟨hm0, hx⟩ := List.mem_replicate.1 hx
      cases hx
      have hmem : (min (F e.a) (F e.b), max (F e.a) (F e.b)) ∈ endsL h.es := by
        rw [(endsL_perm hr.perm).mem_iff]
        exact List.mem_flatMap.2 ⟨nrm F e, List.mem_map.2 ⟨e, he, rfl⟩, List.mem_replicate.2 ⟨hm0, rfl⟩⟩
      rcases Int.le_total (F e.a) (F e.b) with h1 | h1
      · rw [Int.min_eq_left h1, Int.max_eq_right h1] at hmem; exact .inl hmem
      · rw [Int.min_eq_right h1, Int.max_eq_left h1] at hmem; exact .inr hmem
    rcases hh with hh | hh
    · exact key _ _ hh
    · exact (key _ _ hh).symm
theorem rootsN_filter (F : List Nat) (k : Nat) : rootsN F k = ((List.range k).filter fun v => decide (F[v]? = some v)).length := by
  induction k with
  | zero => rfl
  | succ k ih =>
    simp only [rootsN]
    rw [ih, List.range_succ, List.filter_append, List.length_append]
    by_cases h : F[k]? = some k <;> simp [h]
theorem nodup_filter {α : Type} {p : α → Bool} {l : List α} (h : l.Nodup) : (l.filter p).Nodup := h.sublist List.filter_sublist
theorem roots_le {g h : G} {n : Nat} {F S : Int → Int} (h1 : Ren g h n F) (h2 : Ren h g n S) (hS : ∀ v : Int, 0 ≤ v ∧ v < n → S (F v) = v) : rootsN (genS (endsL g.es)).1 n ≤ rootsN (genS (endsL h.es)).1 n := by
  have hn12 := (checkG_zero.1 h1.c).1
  have hn := h1.nn
  have hr : In12 (endsL g.es) := fun p hp => by have := ends_in h1.c h1.nn p hp; omega
  have hr' : In12 (endsL h.es) := fun p hp => by have := ends_in h1.c' h1.nn' p hp; omega
  have ok := (uf _ hr).ok
  have ok' := (uf _ hr').ok
  rw [rootsN_filter, rootsN_filter]
  have hFv : ∀ v : Nat, v < n → (F v).toNat < n := fun v hv => by have := h1.rng v (by omega); omega
  have key : (((List.range n).filter fun v => decide ((genS (endsL g.es)).1[v]? = some v)).map fun (v : Nat) => rootF (genS (endsL h.es)).1 12 (F (v : Int)).toNat).length ≤ ((List.range n).filter fun v => decide ((genS (endsL h.es)).1[v]? = some v)).length := by
    refine List.Nodup.length_le_of_subset ?_ ?_
    · rw [List.Nodup, List.pairwise_map]
      have hp : ((List.range n).filter fun v => decide ((genS (endsL g.es)).1[v]? = some v)).Nodup := nodup_filter List.nodup_range
      have hp2 : ((List.range n).filter fun v => decide ((genS (endsL g.es)).1[v]? = some v)).Pairwise (fun a b => a ≠ b ∧ (a < n ∧ (genS (endsL g.es)).1[a]? = some a) ∧ (b < n ∧ (genS (endsL g.es)).1[b]? = some b)) := by
        rw [List.pairwise_iff_getElem]
        intro i j hi hj hij
        have m1 := List.mem_filter.1 (List.getElem_mem hi)
        have m2 := List.mem_filter.1 (List.getElem_mem hj)
        exact ⟨List.pairwise_iff_getElem.1 hp i j hi hj hij, ⟨List.mem_range.1 m1.1, of_decide_eq_true m1.2⟩, ⟨List.mem_range.1 m2.1, of_decide_eq_true m2.2⟩⟩
      refine hp2.imp ?_
      rintro a b ⟨hab, ⟨ha, ra⟩, ⟨hb, rb⟩⟩ e
      have hc : Conn (endsL h.es) (F a).toNat (F b).toNat := (conn_root hr' (by have := hFv a ha; omega) (by have := hFv b hb; omega)).2 e
      have hc2 := ren_conn h2 hc
      have ra' := h1.rng a (by omega)
      have rb' := h1.rng b (by omega)
      rw [show (((F a).toNat : Nat) : Int) = F a by omega, show (((F b).toNat : Nat) : Int) = F b by omega, hS a (by omega), hS b (by omega), Int.toNat_natCast, Int.toNat_natCast] at hc2
      have e2 := (conn_root hr (by omega) (by omega)).1 hc2
      rw [root_self ok (by omega) ra, root_self ok (by omega) rb] at e2
      exact hab e2
    · intro x hx
      obtain ⟨v, hv, rfl⟩ := List.mem_map.1 hx
      have hv := List.mem_range.1 (List.mem_filter.1 hv).1
      have hF := hFv v hv
      have hle := rootF_le ok' (n := 12) (v := (F v).toNat) (by omega)
      refine List.mem_filter.2 ⟨List.mem_range.2 (by omega), decide_eq_true (root_fix ok' (by omega))⟩
  rw [List.length_map] at key
  omega
theorem ren_genus {g h : G} {n : Nat} {F S : Int → Int} (h1 : Ren g h n F) (h2 : Ren h g n S) (hS : ∀ v : Int, 0 ≤ v ∧ v < n → S (F v) = v) (hF : ∀ v : Int, 0 ≤ v ∧ v < n → F (S v) = v) : genL (endsL h.es) = genL (endsL g.es) := by
  have a1 := roots_le h1 h2 hS
  have a2 := roots_le h2 h1 hF
  rw [genus_eq h1.c h1.nn, genus_eq h1.c' h1.nn', ren_size h1, parts_roots h1.c h1.nn n (Nat.le_refl _), parts_roots h1.c' h1.nn' n (Nat.le_refl _)]
  omega
end Go.Proofs.Ytbdpkgckdkpepaa
