/- A part of the proof: contracts of functions of the program, or plain lemmas. -/
import Derived.Test.YtbdpkgckdkpepaaG38
import Derived.Test.YtbdpkgckdkpepaaG22
set_option linter.all false
namespace Go.Proofs.Ytbdpkgckdkpepaa
open Go.Sp
set_option linter.unusedSimpArgs false
set_option linter.unusedVariables false
theorem renGo_nodup {n : Int} : ∀ {l p : List Int}, renGo n p l = 0 → l.Nodup ∧ ∀ x, x ∈ l → ¬ x ∈ p
  | [], _, _ => ⟨List.nodup_nil, fun x hx => by cases hx⟩
  | v :: l, p, h => by
    simp only [renGo] at h
    split at h
    · omega
    · split at h
      · omega
      · rename_i hv
        obtain ⟨h1, h2⟩ := renGo_nodup h
        refine ⟨List.nodup_cons.2 ⟨fun hm => h2 v hm (by simp), h1⟩, fun x hx => ?_⟩
        rcases List.mem_cons.1 hx with rfl | hx
        · exact hv
        · exact fun hp => h2 x hx (by simp [hp])
theorem renGo_zero {n : Int} : ∀ {l p : List Int}, (∀ x, x ∈ l → 0 ≤ x ∧ x < n) → l.Nodup → (∀ x, x ∈ l → ¬ x ∈ p) → renGo n p l = 0
  | [], _, _, _, _ => rfl
  | v :: l, p, h1, h2, h3 => by
    have hn := List.nodup_cons.1 h2
    simp only [renGo]
    rw [if_neg (by have := h1 v (by simp); omega), if_neg (h3 v (by simp))]
    refine renGo_zero (fun x hx => h1 x (by simp [hx])) hn.2 fun x hx hp => ?_
    rcases List.mem_append.1 hp with hp | hp
    · exact h3 x (by simp [hx]) hp
    · obtain rfl := List.mem_singleton.1 hp
      exact hn.1 hx
def piF (l : List Int) (v : Int) : Int := l.getD v.toNat 0
theorem piF_get {l : List Int} {v : Int} (h : 0 ≤ v ∧ v < l.length) : l[v.toNat]? = some (piF l v) := by
  unfold piF; rw [List.getD_eq_getElem?_getD, List.getElem?_eq_getElem (by omega)]; rfl
structure PermL (n : Nat) (l : List Int) : Prop where
  len : l.length = n
  rng : ∀ x, x ∈ l → 0 ≤ x ∧ x < n
  nd : l.Nodup
theorem permL_of {n : Nat} {l : List Int} (h : rnmE n l = 0) : PermL n l := by
  unfold rnmE at h
  split at h
  · omega
  · exact ⟨by omega, fun x hx => renGo_range h x hx, (renGo_nodup h).1⟩
theorem permL_ren {n : Nat} {l : List Int} (h : PermL n l) : rnmE n l = 0 := by
  unfold rnmE
  rw [if_neg (by have := h.len; omega)]
  exact renGo_zero h.rng h.nd (fun _ _ => by simp)
theorem PermL.inj {n : Nat} {l : List Int} (h : PermL n l) {u v : Int} (hu : 0 ≤ u ∧ u < n) (hv : 0 ≤ v ∧ v < n) (e : piF l u = piF l v) : u = v := by
  have h1 := piF_get (l := l) (v := u) (by rw [h.len]; exact hu)
  have h2 := piF_get (l := l) (v := v) (by rw [h.len]; exact hv)
  obtain ⟨q1, e1⟩ := List.getElem?_eq_some_iff.1 h1
  obtain ⟨q2, e2⟩ := List.getElem?_eq_some_iff.1 h2
  have hp := List.pairwise_iff_getElem.1 h.nd
  rcases Nat.lt_trichotomy u.toNat v.toNat with h3 | h3 | h3
  · exact absurd (e1.trans (e.trans e2.symm)) (hp _ _ q1 q2 h3)
  · omega
  · exact absurd (e2.trans (e.symm.trans e1.symm)) (hp _ _ q2 q1 h3)
theorem PermL.rng' {n : Nat} {l : List Int} (h : PermL n l) {u : Int} (hu : 0 ≤ u ∧ u < n) : 0 ≤ piF l u ∧ piF l u < n :=
  h.rng _ (List.mem_of_getElem? (piF_get (by rw [h.len]; exact hu)))
theorem PermL.surj {n : Nat} {l : List Int} (h : PermL n l) {w : Int} (hw : 0 ≤ w ∧ w < n) : ∃ v : Int, (0 ≤ v ∧ v < n) ∧ piF l v = w := by
  by_cases hm : w ∈ l
  · obtain ⟨i, hi, e⟩ := List.mem_iff_getElem.1 hm
    have := h.len
    refine ⟨(i : Int), by omega, ?_⟩
    unfold piF
    rw [Int.toNat_natCast, List.getD_eq_getElem?_getD, List.getElem?_eq_getElem hi]
    exact e
  · exfalso
    let R : List Int := (List.range n).map fun (i : Nat) => (i : Int)
    have hR : ∀ x : Int, x ∈ R ↔ 0 ≤ x ∧ x < n := fun x => by
      simp only [R, List.mem_map, List.mem_range]
      exact ⟨fun ⟨i, hi, e⟩ => by omega, fun hx => ⟨x.toNat, by omega, by omega⟩⟩
    have h1 : l.length ≤ (R.filter fun x => decide (x ≠ w)).length := h.nd.length_le_of_subset fun x hx => by
      rw [List.mem_filter, hR]
      exact ⟨h.rng x hx, decide_eq_true fun e : x = w => hm (by rw [← e]; exact hx)⟩
    have h2 : (R.filter fun x => decide (x ≠ w)).length < R.length := List.length_filter_lt_length_iff_exists.2 ⟨w, (hR w).2 hw, by simp⟩
    have h3 : R.length = n := by simp [R]
    have := h.len
    omega
theorem foldl_range_succ0 {α : Type} (f : α → Nat → α) (z : α) (k : Nat) : (List.range (k + 1)).foldl f z = f ((List.range k).foldl f z) k := by rw [List.range_succ, List.foldl_append]; rfl
def backN (l : List Int) (n k : Nat) : List Int := (List.range k).foldl (fun B i => B.set (piF l (i : Nat)).toNat ((i : Nat) : Int)) (List.replicate n 0)
theorem backN_succ (l : List Int) (n k : Nat) : backN l n (k + 1) = (backN l n k).set (piF l k).toNat (k : Int) := foldl_range_succ0 _ _ _
theorem backN_len (l : List Int) (n k : Nat) : (backN l n k).length = n := by
  induction k with
  | zero => simp [backN]
  | succ k ih => rw [backN_succ]; simpa using ih
theorem backN_spec {n : Nat} {l : List Int} (h : PermL n l) : ∀ k, k ≤ n → ∀ i : Nat, i < k → piF (backN l n k) (piF l i) = i := by
  intro k
  induction k with
  | zero => intro _ i hi; omega
  | succ k ih =>
    intro hk i hi
    have hr := h.rng' (u := i) (by omega)
    have hrk := h.rng' (u := k) (by omega)
    unfold piF at hr hrk ⊢
    rw [backN_succ, List.getD_eq_getElem?_getD]
    by_cases e : i = k
    · subst e
      rw [show (piF l (i : Int)).toNat = (l.getD (i : Int).toNat 0).toNat from rfl, List.getElem?_set_self (by rw [backN_len]; omega)]; rfl
    · have hne : (piF l (k : Int)).toNat ≠ (l.getD (i : Int).toNat 0).toNat := fun x => e (by
        have := h.inj (u := k) (v := i) (by omega) (by omega) (by unfold piF; unfold piF at x; omega)
        omega)
      rw [List.getElem?_set_ne hne, ← List.getD_eq_getElem?_getD]
      exact ih (by omega) i (by omega)
theorem back_perm {n : Nat} {l : List Int} (h : PermL n l) : PermL n (backN l n n) ∧ (∀ v : Int, 0 ≤ v ∧ v < n → piF (backN l n n) (piF l v) = v) ∧ (∀ w : Int, 0 ≤ w ∧ w < n → piF l (piF (backN l n n) w) = w) := by
  have hs : ∀ v : Int, 0 ≤ v ∧ v < n → piF (backN l n n) (piF l v) = v := fun v hv => by
    have := backN_spec h n (Nat.le_refl _) v.toNat (by omega)
    rwa [show ((v.toNat : Nat) : Int) = v by omega] at this
  have hlen := backN_len l n n
  have hinv : ∀ w : Int, 0 ≤ w ∧ w < n → (0 ≤ piF (backN l n n) w ∧ piF (backN l n n) w < n) ∧ piF l (piF (backN l n n) w) = w := fun w hw => by
    obtain ⟨v, hv, rfl⟩ := h.surj hw
    rw [hs v hv]; exact ⟨hv, rfl⟩
  refine ⟨⟨hlen, fun x hx => ?_, ?_⟩, hs, fun w hw => (hinv w hw).2⟩
  · obtain ⟨i, hi, e⟩ := List.mem_iff_getElem.1 hx
    have := (hinv (i : Int) (by omega)).1
    unfold piF at this
    rw [Int.toNat_natCast, List.getD_eq_getElem?_getD, List.getElem?_eq_getElem hi] at this
    rw [← e]; exact this
  · rw [List.Nodup, List.pairwise_iff_getElem]
    intro i j hi hj hij e
    have h1 := (hinv (i : Int) (by omega)).2
    have h2 := (hinv (j : Int) (by omega)).2
    have e1 : piF (backN l n n) (i : Int) = piF (backN l n n) (j : Int) := by
      unfold piF
      rw [Int.toNat_natCast, Int.toNat_natCast, List.getD_eq_getElem?_getD, List.getD_eq_getElem?_getD, List.getElem?_eq_getElem hi, List.getElem?_eq_getElem hj, e]
    rw [e1, h2] at h1
    omega
def nrm (F : Int → Int) (x : E) : E := ⟨min (F x.a) (F x.b), max (F x.a) (F x.b), x.m⟩
theorem mov_acc2 {F : Int → Int} : ∀ (es acc : List E), (∀ x, x ∈ es → 0 ≤ F x.a ∧ 0 ≤ F x.b) → es.Pairwise (fun x y => neE (nrm F x) (nrm F y)) → (∀ y, y ∈ acc → ∀ x, x ∈ es → neE y (nrm F x)) → es.foldl (movStep F) acc = acc ++ es.map (nrm F)
  | [], acc, _, _, _ => by simp
  | x :: xs, acc, h1, h2, h3 => by
    have hp := List.pairwise_cons.1 h2
    have e : movStep F acc x = acc ++ [nrm F x] := by
      unfold movStep
      rw [if_pos (h1 x (by simp)), bagPut_new fun y hy => ?_]
      · rfl
      · have := h3 y hy x (by simp)
        unfold neE nrm at this; exact this
    rw [List.foldl_cons, e, mov_acc2 xs _ (fun y hy => h1 y (by simp [hy])) hp.2 (fun y hy z hz => ?_)]
    · simp
    · rcases List.mem_append.1 hy with hy | hy
      · exact h3 y hy z (by simp [hz])
      · obtain rfl := List.mem_singleton.1 hy
        exact hp.1 z hz
structure Ren (g h : G) (n : Nat) (F : Int → Int) : Prop where
  c : checkG g = 0
  nn : g.n = n
  c' : checkG h = 0
  nn' : h.n = n
  rng : ∀ v : Int, 0 ≤ v ∧ v < n → 0 ≤ F v ∧ F v < n
  inj : ∀ u v : Int, 0 ≤ u ∧ u < n → 0 ≤ v ∧ v < n → F u = F v → u = v
  perm : h.es.Perm (g.es.map (nrm F))
theorem ren_of {g : G} {n : Nat} {l : List Int} (hc : checkG g = 0) (hn : g.n = n) (hp : PermL n l) : relE g l = 0 ∧ Ren g (relG g l) n (piF l) := by
  have hE : relE g l = 0 := by unfold relE; rw [if_neg (by omega), hn, permL_ren hp]
  obtain ⟨h1, h2, h3⟩ := checkG_zero.1 hc
  have hrg : ∀ x, x ∈ g.es → (0 ≤ x.a ∧ x.a < n) ∧ (0 ≤ x.b ∧ x.b < n) ∧ x.a ≤ x.b ∧ 1 ≤ x.m ∧ x.m ≤ 50 := fun x hx => by have := h2 x hx; unfold okE at this; omega
  have hdis : g.es.Pairwise (fun x y => neE (nrm (piF l) x) (nrm (piF l) y)) := by
    have h4 : g.es.Pairwise (fun x y => neE x y ∧ x ∈ g.es ∧ y ∈ g.es) := by
      rw [List.pairwise_iff_getElem]
      intro i j hi hj hij
      exact ⟨List.pairwise_iff_getElem.1 (distinct_of h3) i j hi hj hij, List.getElem_mem hi, List.getElem_mem hj⟩
    refine h4.imp ?_
    rintro x y ⟨h5, hx, hy⟩
    have q1 := hrg x hx
    have q2 := hrg y hy
    unfold neE nrm at *
    simp only
    intro hh
    have hcase : (piF l x.a = piF l y.a ∧ piF l x.b = piF l y.b) ∨ (piF l x.a = piF l y.b ∧ piF l x.b = piF l y.a) := by omega
    rcases hcase with ⟨ea, eb⟩ | ⟨ea, eb⟩
    · have := hp.inj q1.1 q2.1 ea
      have := hp.inj q1.2.1 q2.2.1 eb
      omega
    · have := hp.inj q1.1 q2.2.1 ea
      have := hp.inj q1.2.1 q2.1 eb
      omega
  have hmov : movL (fun v => l.getD v.toNat 0) g.es = g.es.map (nrm (piF l)) := by
    have := mov_acc2 (F := piF l) g.es [] (fun x hx => by have := hrg x hx; exact ⟨(hp.rng' this.1).1, (hp.rng' this.2.1).1⟩) hdis (fun y hy => by cases hy)
    exact this
  have hdm : distinctE (g.es.map (nrm (piF l))) := by unfold distinctE; rw [List.pairwise_map]; exact hdis
  have hG : relG g l = ⟨g.n, sortE (g.es.map (nrm (piF l)))⟩ := by unfold relG; rw [if_neg (by rw [hE]; simp), hmov]
  have hperm : (sortE (g.es.map (nrm (piF l)))).Perm (g.es.map (nrm (piF l))) := sortE_perm _
  refine ⟨hE, ⟨hc, hn, ?_, by rw [hG]; exact hn, fun v hv => hp.rng' hv, fun u v hu hv => hp.inj hu hv, by rw [hG]; exact hperm⟩⟩
  rw [hG, checkG_zero]
  refine ⟨h1, fun e he => ?_, sortE_sorted hdm⟩
  obtain ⟨x, hx, rfl⟩ := List.mem_map.1 (hperm.mem_iff.1 he)
  have := hrg x hx
  have r1 := hp.rng' this.1
  have r2 := hp.rng' this.2.1
  unfold okE nrm
  simp only; omega
end Go.Proofs.Ytbdpkgckdkpepaa
