/- A part of the proof: contracts of functions of the program, or plain lemmas. -/
import Derived.Test.YtbdpkgckdkpepaaG21
import Derived.Test.YtbdpkgckdkpepaaG19
set_option linter.all false
namespace Go.Proofs.Ytbdpkgckdkpepaa
open Go.Sp
set_option linter.unusedSimpArgs false
set_option linter.unusedVariables false
/-- The numbers below n with a property. -/
def inL (p : Int → Bool) (n : Nat) : List Int := ((List.range n).map fun (i : Nat) => (i : Int)).filter p
theorem inL_succ (p : Int → Bool) (n : Nat) : inL p (n + 1) = inL p n ++ (if p n then [(n : Int)] else []) := by
  simp only [inL, List.range_succ, List.map_append, List.filter_append, List.map_cons, List.map_nil]
  congr 1
  cases h : p n <;> simp [h]
theorem inL_zero (p : Int → Bool) : inL p 0 = [] := rfl
theorem inL_len (p : Int → Bool) (n : Nat) : (inL p n).length ≤ n := by
  have := List.length_filter_le p ((List.range n).map fun (i : Nat) => (i : Int))
  simpa [inL] using this
theorem inL_mem {p : Int → Bool} {n : Nat} {x : Int} : x ∈ inL p n ↔ (0 ≤ x ∧ x < n) ∧ p x = true := by
  simp only [inL, List.mem_filter, List.mem_map, List.mem_range]
  constructor
  · rintro ⟨⟨i, hi, rfl⟩, h⟩; exact ⟨by omega, h⟩
  · rintro ⟨h, h2⟩; exact ⟨⟨x.toNat, by omega, by omega⟩, h2⟩
theorem inL_sorted (p : Int → Bool) (n : Nat) : (inL p n).Pairwise (· < ·) := by
  refine List.Pairwise.filter _ ?_
  rw [List.pairwise_map]
  exact List.pairwise_lt_range.imp fun {a b} h => by omega
theorem subE_zero {n : Int} : ∀ {l : List Int} {u : Option Int}, (∀ x, x ∈ l → 0 ≤ x ∧ x < n) → l.Pairwise (· < ·) → (∀ w, u = some w → ∀ x, x ∈ l → w < x) → subE n u l = 0
  | [], _, _, _, _ => rfl
  | x :: xs, u, h1, h2, h3 => by
    have := h1 x (by simp)
    have hp := List.pairwise_cons.1 h2
    simp only [subE]
    rw [if_neg (by omega), if_neg (by rintro ⟨w, hw, hx⟩; have := h3 w hw x (by simp); omega)]
    refine subE_zero (fun y hy => h1 y (by simp [hy])) hp.2 fun w hw y hy => ?_
    cases hw; exact hp.1 y hy
theorem idxI_mono : ∀ {l : List Int} {x y : Int}, l.Pairwise (· < ·) → 0 ≤ idxI l x → 0 ≤ idxI l y → x < y → idxI l x < idxI l y
  | [], x, y, _, h, _, _ => by simp [idxI] at h
  | z :: zs, x, y, h, hx, hy, hxy => by
    have hp := List.pairwise_cons.1 h
    simp only [idxI] at hx hy ⊢
    by_cases ex : z = x
    · subst ex
      rw [if_pos rfl]
      rw [if_neg (by omega)] at hy ⊢
      split at hy
      · omega
      · rw [if_neg (by omega)]; omega
    · rw [if_neg ex] at hx ⊢
      split at hx
      · omega
      · have hxm : x ∈ zs := (idxI_mem zs x).1 (by omega)
        have := hp.1 x hxm
        rw [if_neg (by omega)] at hy ⊢
        split at hy
        · omega
        · have := idxI_mono hp.2 (x := x) (y := y) (by omega) (by omega) hxy
          rw [if_neg (by omega), if_neg (by omega)]; omega
/-- A renamed edge. -/
def renE (F : Int → Int) (x : E) : E := ⟨F x.a, F x.b, x.m⟩
def bothE (F : Int → Int) (x : E) : Bool := decide (0 ≤ F x.a ∧ 0 ≤ F x.b)
theorem bagPut_new {es : List E} {a b m : Int} (h : ∀ x, x ∈ es → ¬ (x.a = a ∧ x.b = b)) : bagPut es a b m = es ++ [⟨a, b, m⟩] := by
  induction es with
  | nil => rfl
  | cons x xs ih => simp only [bagPut]; rw [if_neg (h x (by simp)), ih fun y hy => h y (by simp [hy])]; rfl
def MonoF (F : Int → Int) : Prop := ∀ u v, 0 ≤ F u → 0 ≤ F v → u < v → F u < F v
theorem ren_lt {F : Int → Int} (hF : MonoF F) {x y : E} (hx : bothE F x = true) (hy : bothE F y = true) (h : ltE x y) : ltE (renE F x) (renE F y) := by
  simp only [bothE, decide_eq_true_eq] at hx hy
  unfold ltE renE at *
  simp only
  rcases h with h | ⟨h, h2⟩
  · exact .inl (hF _ _ hx.1 hy.1 h)
  · exact .inr ⟨by rw [h], hF _ _ hx.2 hy.2 h2⟩
theorem mov_acc {F : Int → Int} (hF : MonoF F) : ∀ (es acc : List E), (∀ x, x ∈ es → x.a ≤ x.b) → es.Pairwise ltE → (∀ y, y ∈ acc → ∀ x, x ∈ es → bothE F x = true → ltE y (renE F x)) →
    es.foldl (movStep F) acc = acc ++ (es.filter (bothE F)).map (renE F)
  | [], acc, _, _, _ => by simp
  | x :: xs, acc, h1, h2, h3 => by
    have hp := List.pairwise_cons.1 h2
    have hx := h1 x (by simp)
    simp only [List.foldl_cons]
    by_cases hb : bothE F x = true
    · have hb' := hb
      simp only [bothE, decide_eq_true_eq] at hb'
      have hab : F x.a ≤ F x.b := by
        by_cases e : x.a = x.b
        · rw [e]; omega
        · have := hF x.a x.b hb'.1 hb'.2 (by omega); omega
      have e1 : min (F x.a) (F x.b) = F x.a := by omega
      have e2 : max (F x.a) (F x.b) = F x.b := by omega
      have e : movStep F acc x = acc ++ [renE F x] := by
        unfold movStep
        rw [if_pos hb', e1, e2, bagPut_new fun y hy => ?_]
        · rfl
        · have := h3 y hy x (by simp) hb
          unfold ltE renE at this
          simp only at this; omega
      rw [e, mov_acc hF xs _ (fun y hy => h1 y (by simp [hy])) hp.2 (fun y hy z hz hzb => ?_), List.filter_cons_of_pos hb]
      · simp
      · rcases List.mem_append.1 hy with hy | hy
        · exact h3 y hy z (by simp [hz]) hzb
        · obtain rfl := List.mem_singleton.1 hy
          exact ren_lt hF hb hzb (hp.1 z hz)
    · have e : movStep F acc x = acc := by
        unfold movStep; exact if_neg (by simpa [bothE] using hb)
      rw [e, mov_acc hF xs _ (fun y hy => h1 y (by simp [hy])) hp.2 (fun y hy z hz hzb => h3 y hy z (by simp [hz]) hzb), List.filter_cons_of_neg hb]
theorem movL_mono {F : Int → Int} (hF : MonoF F) {es : List E} (h1 : ∀ x, x ∈ es → x.a ≤ x.b) (h2 : es.Pairwise ltE) : movL F es = (es.filter (bothE F)).map (renE F) := by
  unfold movL
  rw [mov_acc hF es [] h1 h2 (by simp)]; rfl
theorem movL_sorted {F : Int → Int} (hF : MonoF F) {es : List E} (h2 : es.Pairwise ltE) : ((es.filter (bothE F)).map (renE F)).Pairwise ltE := by
  rw [List.pairwise_map]
  have h3 : (es.filter (bothE F)).Pairwise fun x y => ltE x y ∧ bothE F x = true ∧ bothE F y = true := by
    rw [List.pairwise_filter]
    exact h2.imp fun {x y} h hx hy => ⟨h, hx, hy⟩
  exact h3.imp fun {x y} h => ren_lt hF h.2.1 h.2.2 h.1
theorem sort_mov {F : Int → Int} (hF : MonoF F) {es : List E} (h1 : ∀ x, x ∈ es → x.a ≤ x.b) (h2 : es.Pairwise ltE) : sortE (movL F es) = (es.filter (bothE F)).map (renE F) := by
  rw [movL_mono hF h1 h2]
  exact sortE_eq (movL_sorted hF h2) (List.Perm.refl _)
/-- How many pairs have one end, and how many both, with a property. -/
def sepN (q : Int → Bool) : List (Int × Int) → Int
  | [] => 0
  | p :: l => (if q p.1 = q p.2 then 0 else 1) + sepN q l
def bothN (q : Int → Bool) : List (Int × Int) → Int
  | [] => 0
  | p :: l => (if q p.1 = true ∧ q p.2 = true then 1 else 0) + bothN q l
theorem bothN_append (q : Int → Bool) (a b : List (Int × Int)) : bothN q (a ++ b) = bothN q a + bothN q b := by
  induction a with
  | nil => simp [bothN]
  | cons x xs ih => simp only [List.cons_append, bothN, ih]; omega
theorem bothN_rep (q : Int → Bool) (p : Int × Int) (k : Nat) : bothN q (List.replicate k p) = if q p.1 = true ∧ q p.2 = true then (k : Int) else 0 := by
  induction k with
  | zero => simp [bothN]
  | succ k ih => rw [List.replicate_succ]; simp only [bothN, ih]; split <;> omega
theorem cut_len (set : List Int) (l : List (Int × Int)) : ((cutL set l).length : Int) = sepN (fun v => decide (v ∈ set)) l := by
  have key : ∀ (l : List (Int × Int)) (k : Nat), ((((l.zipIdx k).filterMap fun q => if sepB set q.1 then some (q.2 : Int) else none).length : Nat) : Int) = sepN (fun v => decide (v ∈ set)) l := by
    intro l
    induction l with
    | nil => intro k; rfl
    | cons p l ih =>
      intro k
      rw [List.zipIdx_cons, List.filterMap_cons]
      simp only [sepN]
      by_cases h : decide (p.1 ∈ set) = decide (p.2 ∈ set)
      · rw [if_pos h]
        have hs : sepB set p = false := by unfold sepB; rw [decide_eq_true h]; rfl
        simp only [hs, Bool.false_eq_true, if_false]
        rw [ih]; omega
      · rw [if_neg h]
        have hs : sepB set p = true := by unfold sepB; rw [decide_eq_false h]; rfl
        simp only [hs, if_true, List.length_cons]
        have := ih (k + 1)
        omega
  exact key l 0
theorem sep_sum {q : Int → Bool} {n : Nat} {l : List (Int × Int)} (hr : ∀ p, p ∈ l → (0 ≤ p.1 ∧ p.1 < n) ∧ (0 ≤ p.2 ∧ p.2 < n)) :
    sumR (fun v => if q v then degL v l else 0) n = sepN q l + 2 * bothN q l := by
  induction l with
  | nil => simp only [degL, sepN, bothN]; rw [sumR_zero fun _ _ => by simp]; rfl
  | cons p l ih =>
    have h1 := hr p (by simp)
    have h2 := ih fun x hx => hr x (by simp [hx])
    have h3 : sumR (fun v => if q v then degL v (p :: l) else 0) n = sumR (fun v => if (v : Int) = p.1 then (if q p.1 then 1 else 0) else 0) n + sumR (fun v => if (v : Int) = p.2 then (if q p.2 then 1 else 0) else 0) n + sumR (fun v => if q v then degL v l else 0) n := by
      rw [← sumR_add, ← sumR_add]
      refine sumR_congr fun i _ => ?_
      simp only [degL, b2i]
      have c1 : (if p.1 = (i : Int) then (1 : Int) else 0) = if (i : Int) = p.1 then 1 else 0 := by
        by_cases e : (i : Int) = p.1
        · rw [if_pos e, if_pos e.symm]
        · rw [if_neg e, if_neg fun h => e h.symm]
      have c2 : (if p.2 = (i : Int) then (1 : Int) else 0) = if (i : Int) = p.2 then 1 else 0 := by
        by_cases e : (i : Int) = p.2
        · rw [if_pos e, if_pos e.symm]
        · rw [if_neg e, if_neg fun h => e h.symm]
      rw [c1, c2]
      have q1 : (i : Int) = p.1 → q p.1 = q i := fun e => by rw [e]
      have q2 : (i : Int) = p.2 → q p.2 = q i := fun e => by rw [e]
      by_cases e1 : (i : Int) = p.1
      · by_cases e2 : (i : Int) = p.2
        · rw [if_pos e1, if_pos e2, if_pos e1, if_pos e2, q1 e1, q2 e2]; split <;> omega
        · rw [if_pos e1, if_neg e2, if_pos e1, if_neg e2, q1 e1]; split <;> omega
      · by_cases e2 : (i : Int) = p.2
        · rw [if_neg e1, if_pos e2, if_neg e1, if_pos e2, q2 e2]; split <;> omega
        · rw [if_neg e1, if_neg e2, if_neg e1, if_neg e2]; split <;> omega
    rw [h3, h2, sumR_one h1.1.1 h1.1.2, sumR_one h1.2.1 h1.2.2]
    simp only [sepN, bothN]
    cases hq1 : q p.1 <;> cases hq2 : q p.2 <;> simp <;> omega
theorem sepN_congr {q r : Int → Bool} {l : List (Int × Int)} (h : ∀ p, p ∈ l → q p.1 = r p.1 ∧ q p.2 = r p.2) : sepN q l = sepN r l := by
  induction l with
  | nil => rfl
  | cons p l ih =>
    have h1 := h p (by simp)
    simp only [sepN, ih fun x hx => h x (by simp [hx]), h1.1, h1.2]
theorem bothN_congr {q r : Int → Bool} {l : List (Int × Int)} (h : ∀ p, p ∈ l → q p.1 = r p.1 ∧ q p.2 = r p.2) : bothN q l = bothN r l := by
  induction l with
  | nil => rfl
  | cons p l ih =>
    have h1 := h p (by simp)
    simp only [bothN, ih fun x hx => h x (by simp [hx]), h1.1, h1.2]
theorem both_len {F : Int → Int} {es : List E} (hm : ∀ x, x ∈ es → 1 ≤ x.m) : (((endsL ((es.filter (bothE F)).map (renE F))).length : Nat) : Int) = bothN (fun v => decide (0 ≤ F v)) (endsL es) := by
  induction es with
  | nil => rfl
  | cons x xs ih =>
    have h1 := hm x (by simp)
    have h2 := ih fun y hy => hm y (by simp [hy])
    rw [endsL_cons, bothN_append, bothN_rep, ← h2]
    by_cases hb : bothE F x = true
    · rw [List.filter_cons_of_pos hb, List.map_cons, endsL_cons, List.length_append, List.length_replicate]
      have hb' := hb
      simp only [bothE, decide_eq_true_eq] at hb'
      rw [if_pos (by simpa using hb')]
      simp only [renE]; omega
    · rw [List.filter_cons_of_neg hb, if_neg (by simpa [bothE] using hb)]; omega
theorem filterMap_congr' {α β : Type} {f g : α → Option β} : ∀ {l : List α}, (∀ x, x ∈ l → f x = g x) → l.filterMap f = l.filterMap g
  | [], _ => rfl
  | x :: xs, h => by
    rw [List.filterMap_cons, List.filterMap_cons, h x (by simp), filterMap_congr' fun y hy => h y (by simp [hy])]
theorem cut_congr {s t : List Int} {l : List (Int × Int)} (h : ∀ p, p ∈ l → sepB s p = sepB t p) : cutL s l = cutL t l := by
  unfold cutL
  refine filterMap_congr' fun q hq => ?_
  have : q.1 ∈ l := by
    obtain ⟨a, i⟩ := q
    have := List.mem_zipIdx hq
    simp at this
    rw [this.2]; exact List.getElem_mem _
  rw [h _ this]
/-- P8.3 for cuts. -/
theorem divides {g : G} {n : Nat} (hc : checkG g = 0) (hn : g.n = n) (p : Int → Bool) :
    subG g (inL p n) = 0 ∧ subG g (inL (fun v => !p v) n) = 0 ∧ cutL (inL p n) (endsL g.es) = cutL (inL (fun v => !p v) n) (endsL g.es) ∧
    (inL p n = [] → cutL (inL p n) (endsL g.es) = []) ∧
    (inL p n ≠ [] → indE g (inL p n) = 0 ∧ checkG (indG g (inL p n)) = 0 ∧ (indG g (inL p n)).es.length ≤ g.es.length ∧
      sumR (fun v => if p v then degL v (endsL g.es) else 0) n = (cutL (inL p n) (endsL g.es)).length + 2 * (endsL (indG g (inL p n)).es).length) := by
  obtain ⟨h1, h2, h3⟩ := checkG_zero.1 hc
  have hsub : ∀ q : Int → Bool, subG g (inL q n) = 0 := fun q => by
    unfold subG
    rw [if_neg (by omega)]
    refine subE_zero (fun x hx => ?_) (inL_sorted _ _) (fun w hw => by cases hw)
    have := (inL_mem.1 hx).1; omega
  have hr : ∀ x, x ∈ endsL g.es → (0 ≤ x.1 ∧ x.1 < n) ∧ (0 ≤ x.2 ∧ x.2 < n) := fun x hx => by
    obtain ⟨e, he, hx⟩ := List.mem_flatMap.1 hx
    obtain rfl := List.eq_of_mem_replicate hx
    have := h2 e he
    unfold okE at this
    simp only; omega
  have hmem : ∀ (q : Int → Bool) (v : Int), 0 ≤ v → v < n → decide (v ∈ inL q n) = q v := fun q v hv1 hv2 => by
    rw [Bool.eq_iff_iff]; simp [inL_mem, hv1, hv2]
  refine ⟨hsub p, hsub _, ?_, ?_, ?_⟩
  · refine cut_congr fun x hx => ?_
    have := hr x hx
    unfold sepB
    rw [hmem p x.1 (by omega) (by omega), hmem p x.2 (by omega) (by omega), hmem (fun v => !p v) x.1 (by omega) (by omega), hmem (fun v => !p v) x.2 (by omega) (by omega)]
    cases p x.1 <;> cases p x.2 <;> rfl
  · intro e
    rw [e]
    have : ((cutL [] (endsL g.es)).length : Int) = 0 := by
      rw [cut_len]
      generalize endsL g.es = l
      induction l with
      | nil => rfl
      | cons x xs ih => simp only [sepN]; simp; simpa using ih
    exact List.length_eq_zero_iff.1 (by omega)
  · intro hne
    have hF : MonoF (idxI (inL p n)) := fun u v hu hv huv => idxI_mono (inL_sorted _ _) hu hv huv
    have hE : indE g (inL p n) = 0 := by unfold indE; rw [if_neg (by rw [hsub]; simp), if_neg hne]
    have hlen := inL_len p n
    have hl0 : 0 < (inL p n).length := List.length_pos_iff.2 hne
    have hG : indG g (inL p n) = ⟨(inL p n).length, (g.es.filter (bothE (idxI (inL p n)))).map (renE (idxI (inL p n)))⟩ := by
      unfold indG
      rw [if_neg (by rw [hE]; simp), sort_mov hF (fun x hx => by have := h2 x hx; unfold okE at this; omega) h3]
    refine ⟨hE, ?_, ?_, ?_⟩
    · rw [hG, checkG_zero]
      refine ⟨by simp only; omega, fun e he => ?_, movL_sorted hF h3⟩
      obtain ⟨x, hx, rfl⟩ := List.mem_map.1 he
      obtain ⟨hx, hb⟩ := List.mem_filter.1 hx
      have hok := h2 x hx
      simp only [bothE, decide_eq_true_eq] at hb
      have hlt := idxI_lt (inL p n) x.b
      have hab : idxI (inL p n) x.a ≤ idxI (inL p n) x.b := by
        by_cases e : x.a = x.b
        · rw [e]; omega
        · have := hF x.a x.b hb.1 hb.2 (by unfold okE at hok; omega); omega
      unfold okE at *
      simp only [renE]; omega
    · rw [hG]; simp only [List.length_map]; exact List.length_filter_le _ _
    · rw [sep_sum hr, cut_len, hG]
      simp only
      rw [both_len (fun x hx => by have := h2 x hx; unfold okE at this; omega)]
      rw [sepN_congr (q := p) (r := fun v => decide (v ∈ inL p n)), bothN_congr (q := p) (r := fun v => decide (0 ≤ idxI (inL p n) v))]
      · intro x hx
        have := hr x hx
        have e : ∀ v : Int, 0 ≤ v → v < n → p v = decide (0 ≤ idxI (inL p n) v) := fun v hv1 hv2 => by
          rw [← hmem p v hv1 hv2]; exact decide_eq_decide.2 (idxI_mem _ _).symm
        exact ⟨e _ (by omega) (by omega), e _ (by omega) (by omega)⟩
      · intro x hx
        have := hr x hx
        exact ⟨(hmem p _ (by omega) (by omega)).symm, (hmem p _ (by omega) (by omega)).symm⟩
end Go.Proofs.Ytbdpkgckdkpepaa
