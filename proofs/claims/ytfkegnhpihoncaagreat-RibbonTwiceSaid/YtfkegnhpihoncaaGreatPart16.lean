/- A part of the proof: contracts of functions of the program, and plain lemmas. -/
import Derived.Test.YtfkegnhpihoncaaGreatPart15
import Derived.Test.YtfkegnhpihoncaaGreatPart09
import Derived.Test.YtfkegnhpihoncaaGreatLayerC
import Derived.Test.YtfkegnhpihoncaaGreatPart13
import Derived.Test.YtfkegnhpihoncaaGreatPart12
import Derived.Test.YtfkegnhpihoncaaGreatPart14
import Derived.Test.YtfkegnhpihoncaaGreatPart10
import Derived.Test.YtfkegnhpihoncaaGreatPart07
import Derived.Test.YtfkegnhpihoncaaGreatPart08
set_option linter.all false
namespace Go.Proofs.YtfkegnhpihoncaaGreat
open Go.Sp
set_option linter.unusedSimpArgs false
set_option linter.unusedVariables false
theorem rootsN_filter (F : List Nat) (k : Nat) : rootsN F k = ((List.range k).filter fun v => decide (F[v]? = some v)).length := by
  induction k with
  | zero => rfl
  | succ k ih =>
    simp only [rootsN]
    rw [ih, List.range_succ, List.filter_append, List.length_append]
    by_cases h : F[k]? = some k <;> simp [h]
end Go.Proofs.YtfkegnhpihoncaaGreat
set_option linter.all false
namespace Go.Proofs.YtfkegnhpihoncaaGreat
open Go.Sp
set_option linter.unusedSimpArgs false
set_option linter.unusedVariables false
open Classical in
theorem faces_ncls {N : Nat} {f : Nat → Nat} (hp : PermN N f) : (facesN f N N).length = ncls N (cycR f) := by
  unfold facesN leadsL ncls
  rw [List.length_map]
  congr 1
  refine List.filter_congr fun h hh => ?_
  have hh' := List.mem_range.1 hh
  rw [Bool.eq_iff_iff, leadB_iff, decide_eq_true_eq]
  constructor
  · intro H y hy ⟨i, hi⟩
    exact H y ((face_mem hp hh').2 ⟨i, hi⟩)
  · intro H y hy
    exact H y (face_lt hp hh' hy) ((face_mem hp hh').1 hy)
open Classical in
theorem ncls_onto {N n : Nat} (g : Nat → Nat) (hr : ∀ x, x < N → g x < n) (hs : ∀ v, v < n → ∃ x, x < N ∧ g x = v) : ncls N (fun x y => g x = g y) = n := by
  unfold ncls
  generalize hl : List.filter _ (List.range N) = l
  have hmem : ∀ h, h ∈ l ↔ h < N ∧ ∀ y, y < N → g h = g y → h ≤ y := fun h => by rw [← hl]; simp
  have hnd : l.Nodup := by rw [← hl]; exact List.nodup_range.filter _
  have hinj : ∀ a b, a ∈ l → b ∈ l → g a = g b → a = b := fun a b ha hb e => by
    have h1 := (hmem a).1 ha
    have h2 := (hmem b).1 hb
    have := h1.2 b h2.1 e
    have := h2.2 a h1.1 e.symm
    omega
  have hnd2 : (l.map g).Nodup := by
    rw [List.Nodup, List.pairwise_map]
    exact List.Pairwise.imp_of_mem (fun {a b} ha hb hne e => hne (hinj a b ha hb e)) hnd
  have h1 := List.Nodup.length_le_of_subset hnd2 (l₂ := List.range n) (fun v hv => by
    obtain ⟨x, hx, rfl⟩ := List.mem_map.1 hv
    exact List.mem_range.2 (hr x ((hmem x).1 hx).1))
  have h2 := List.Nodup.length_le_of_subset (List.nodup_range (n := n)) (l₂ := l.map g) (fun v hv => by
    obtain ⟨x, hx, e⟩ := hs v (List.mem_range.1 hv)
    obtain ⟨m, m1, ⟨m2, m3⟩, m4⟩ := least_of (P := fun y => y < N ∧ g y = v) ⟨hx, e⟩
    exact List.mem_map.2 ⟨m, (hmem m).2 ⟨m2, fun y hy he => m4 y ⟨hy, by rw [← he, m3]⟩⟩, m3⟩)
  simp at h1 h2
  omega
theorem conn_snoc {l : List (Int × Int)} {a b : Nat} {x y : Nat} : Conn (l ++ [((a : Int), (b : Int))]) x y ↔ Conn l x y ∨ (Conn l a x ∨ Conn l b x) ∧ (Conn l a y ∨ Conn l b y) := by
  constructor
  · intro h
    induction h with
    | refl => exact .inl .refl
    | @step u w _ hs ih =>
      have hor : (((u : Int), (w : Int)) ∈ l ∨ ((w : Int), (u : Int)) ∈ l) ∨ (u = a ∧ w = b) ∨ (u = b ∧ w = a) := by
        rcases hs with h | h <;> rcases List.mem_append.1 h with h | h
        · exact .inl (.inl h)
        · simp at h; exact .inr (.inl ⟨by omega, by omega⟩)
        · exact .inl (.inr h)
        · simp at h; exact .inr (.inr ⟨by omega, by omega⟩)
      rcases hor with h | ⟨rfl, rfl⟩ | ⟨rfl, rfl⟩
      · rcases ih with ih | ⟨i1, i2⟩
        · exact .inl (ih.step h)
        · exact .inr ⟨i1, i2.imp (fun q => q.step h) (fun q => q.step h)⟩
      · rcases ih with ih | ⟨i1, i2⟩
        · exact .inr ⟨.inl ih.symm, .inr .refl⟩
        · exact .inr ⟨i1, .inr .refl⟩
      · rcases ih with ih | ⟨i1, i2⟩
        · exact .inr ⟨.inr ih.symm, .inl .refl⟩
        · exact .inr ⟨i1, .inl .refl⟩
  · have hm : ∀ {u w}, Conn l u w → Conn (l ++ [((a : Int), (b : Int))]) u w := fun h => h.mono fun p hp => List.mem_append_left _ hp
    have hab : Conn (l ++ [((a : Int), (b : Int))]) a b := .one (.inl (by simp))
    rintro (h | ⟨h1, h2⟩)
    · exact hm h
    · rcases h1 with h1 | h1 <;> rcases h2 with h2 | h2
      · exact (hm h1).symm.trans (hm h2)
      · exact (hm h1).symm.trans (hab.trans (hm h2))
      · exact (hm h1).symm.trans (hab.symm.trans (hm h2))
      · exact (hm h1).symm.trans (hm h2)
theorem conn_eqv (N : Nat) (l : List (Int × Int)) : Eqv N (Conn l) := ⟨fun _ _ => .refl, fun _ _ _ _ h => h.symm, fun _ _ _ _ _ _ h1 h2 => h1.trans h2⟩
open Classical in
theorem parts_ncls {g : G} {n : Nat} (hc : checkG g = 0) (hn : g.n = n) : partsN g.es n n = ncls n (Conn (endsL g.es)) := by
  have h12 := (checkG_zero.1 hc).1
  have h1 := parts_roots hc hn n (Nat.le_refl _)
  rw [rootsN_filter] at h1
  have h2 : partsN g.es n n = ((List.range n).filter fun v => decide ((genS (endsL g.es)).1[v]? = some v)).length := by omega
  rw [h2]
  unfold ncls
  congr 1
  refine List.filter_congr fun v hv => ?_
  have hv' := List.mem_range.1 hv
  have hin : In12 (endsL g.es) := fun p hp => by have := ends_in hc hn p hp; omega
  rw [decide_eq_decide, isRoot_iff hin (by omega)]
  constructor
  · intro H y hy hcn
    exact Nat.le_of_not_lt fun hlt => H ⟨y, hlt, hcn.symm⟩
  · rintro H ⟨u, hu, hcn⟩
    have := H u (by omega) hcn.symm
    omega
def midF (s : Nat → Nat) (k x : Nat) : Nat := if x < 2 * k then s (oppH x) else s x
theorem mid_step (s : Nat → Nat) (k : Nat) : midF s (k + 1) = swapF (midF s k) (2 * k) (2 * k + 1) := by
  have e1 : oppH (2 * k) = 2 * k + 1 := by unfold oppH; omega
  have e2 : oppH (2 * k + 1) = 2 * k := by unfold oppH; omega
  funext x
  unfold swapF midF
  by_cases h1 : x = 2 * k
  · subst h1
    rw [if_pos (by omega), if_pos rfl, if_neg (by omega), e1]
  · by_cases h2 : x = 2 * k + 1
    · subst h2
      rw [if_pos (by omega), if_neg (by omega), if_pos rfl, if_neg (by omega), e2]
    · rw [if_neg h1, if_neg h2]
      by_cases h3 : x < 2 * k
      · rw [if_pos h3, if_pos (by omega)]
      · rw [if_neg h3, if_neg (by omega)]
structure Emb (E n : Nat) (L : List (Int × Int)) (s : Nat → Nat) (g : Nat → Nat) : Prop where
  len : L.length = E
  perm : PermN (2 * E) s
  lt : ∀ x, x < 2 * E → g x < n
  ends : ∀ k, k < E → L[k]? = some (((g (2 * k) : Nat) : Int), ((g (2 * k + 1) : Nat) : Int))
  keep : ∀ x, x < 2 * E → g (s x) = g x
section
variable {E n : Nat} {L : List (Int × Int)} {s g : Nat → Nat}
theorem Emb.mid_perm (h : Emb E n L s g) : ∀ k, k ≤ E → PermN (2 * E) (midF s k)
  | 0, _ => by
    have e : midF s 0 = s := by funext x; unfold midF; rw [if_neg (by omega)]
    rw [e]; exact h.perm
  | k + 1, hk => by rw [mid_step]; exact swap_perm (h.mid_perm k (by omega)) (by omega) (by omega)
theorem Emb.within (h : Emb E n L s g) {k : Nat} (hk : k ≤ E) {x y : Nat} (hx : x < 2 * E) (hc : cycR (midF s k) x y) : Conn (L.take k) (g x) (g y) := by
  obtain ⟨i, rfl⟩ := hc
  induction i with
  | zero => exact .refl
  | succ i ih =>
    have hl := (h.mid_perm k hk).it_lt hx i
    show Conn (L.take k) (g x) (g (midF s k (it (midF s k) i x)))
    generalize it (midF s k) i x = z at *
    unfold midF
    by_cases hz : z < 2 * k
    · rw [if_pos hz]
      have ho : oppH z < 2 * E := by unfold oppH; omega
      rw [h.keep _ ho]
      have he := h.ends (z / 2) (by omega)
      have hm : (((g (2 * (z / 2)) : Nat) : Int), ((g (2 * (z / 2) + 1) : Nat) : Int)) ∈ L.take k := by
        refine List.mem_of_getElem? (i := z / 2) ?_
        rw [List.getElem?_take, if_pos (by omega), he]
      have hz2 : z = 2 * (z / 2) ∨ z = 2 * (z / 2) + 1 := by omega
      rcases hz2 with e | e
      · have e3 : oppH z = 2 * (z / 2) + 1 := by unfold oppH; omega
        rw [e3]
        generalize 2 * (z / 2) = u at *
        subst e
        exact ih.step (.inl hm)
      · have e3 : oppH z = 2 * (z / 2) := by unfold oppH; omega
        rw [e3]
        generalize 2 * (z / 2) = u at *
        subst e
        exact ih.step (.inr hm)
    · rw [if_neg hz, h.keep _ hl]
      exact ih
theorem Emb.bound (h : Emb E n L s g) (h0 : ncls (2 * E) (cycR s) = n) : ∀ k, k ≤ E → ncls (2 * E) (cycR (midF s k)) + n ≤ k + 2 * ncls n (Conn (L.take k)) ∧ (ncls (2 * E) (cycR (midF s k)) + n + k) % 2 = 0
  | 0, _ => by
    have e : midF s 0 = s := by funext x; unfold midF; rw [if_neg (by omega)]
    have e2 : ncls n (Conn (L.take 0)) = n := by
      have := ncls_onto (N := n) (n := n) (fun x => x) (fun x hx => hx) (fun v hv => ⟨v, hv, rfl⟩)
      rw [← ncls_congr (R := Conn (L.take 0)) (S := fun x y => x = y) fun x y _ _ => ?_] at this
      · exact this
      · constructor
        · intro hc
          cases hc with
          | refl => rfl
          | step _ hs => simp at hs
        · rintro rfl; exact .refl
    rw [e, h0, e2]
    omega
  | k + 1, hk => by
    obtain ⟨i1, i2⟩ := h.bound h0 k (by omega)
    have ha : 2 * k < 2 * E := by omega
    have hb : 2 * k + 1 < 2 * E := by omega
    have htk : L.take (k + 1) = L.take k ++ [(((g (2 * k) : Nat) : Int), ((g (2 * k + 1) : Nat) : Int))] := by
      have he := h.ends k (by omega)
      obtain ⟨q1, q2⟩ := List.getElem?_eq_some_iff.1 he
      rw [List.take_succ_eq_append_getElem q1, q2]
    have hsw := swap_count (h.mid_perm k (by omega)) ha hb (by omega)
    rw [← mid_step] at hsw
    have hga := h.lt _ ha
    have hgb := h.lt _ hb
    by_cases hc : Conn (L.take k) (g (2 * k)) (g (2 * k + 1))
    · have e : ncls n (Conn (L.take (k + 1))) = ncls n (Conn (L.take k)) := ncls_congr fun x y _ _ => by
        rw [htk, conn_snoc]
        constructor
        · rintro (q | ⟨q1, q2⟩)
          · exact q
          · rcases q1 with q1 | q1 <;> rcases q2 with q2 | q2
            · exact q1.symm.trans q2
            · exact q1.symm.trans (hc.trans q2)
            · exact q1.symm.trans (hc.symm.trans q2)
            · exact q1.symm.trans q2
        · exact .inl
      rw [e]
      rcases hsw with ⟨_, q⟩ | ⟨_, q⟩ <;> omega
    · have e := ncls_join (conn_eqv n (L.take k)) hga hgb hc (S := Conn (L.take (k + 1))) fun x y _ _ => by rw [htk, conn_snoc]
      rcases hsw with ⟨q0, q⟩ | ⟨_, q⟩
      · exact absurd (h.within (by omega) ha q0) hc
      · omega
end
end Go.Proofs.YtfkegnhpihoncaaGreat
set_option linter.all false
namespace Go.Proofs.YtfkegnhpihoncaaGreat
open Go.Sp
set_option linter.unusedSimpArgs false
set_option linter.unusedVariables false
theorem row_iter {l : List Int} (hn : l.Nodup) {s : Nat → Nat} (hs : ∀ x : Nat, (x : Int) ∈ l → ((s x : Nat) : Int) = nextI l (x : Int)) {x : Nat} (hx : (x : Int) ∈ l) : ∀ k, l[(l.idxOf (x : Int) + k) % l.length]? = some ((it s k x : Nat) : Int)
  | 0 => by
    obtain ⟨h1, h2⟩ := getD_idx hx
    rw [Nat.add_zero, Nat.mod_eq_of_lt h1, h2]; rfl
  | k + 1 => by
    have ih := row_iter hn hs hx k
    obtain ⟨h1, h2⟩ := getD_idx hx
    have hm := List.mem_of_getElem? ih
    have hnx := hs _ hm
    unfold nextI at hnx
    rw [idx_at hn ih] at hnx
    have hlt : ((l.idxOf (x : Int) + k) % l.length + 1) % l.length < l.length := Nat.mod_lt _ (by omega)
    have e : ((l.idxOf (x : Int) + k) % l.length + 1) % l.length = (l.idxOf (x : Int) + (k + 1)) % l.length := by rw [Nat.mod_add_mod]; rfl
    rw [e] at hnx hlt
    rw [List.getD_eq_getElem?_getD, List.getElem?_eq_getElem hlt, Option.getD_some] at hnx
    rw [List.getElem?_eq_getElem hlt]
    show _ = some (((s (it s k x)) : Nat) : Int)
    rw [hnx]
theorem row_cyc {l : List Int} (hn : l.Nodup) {s : Nat → Nat} (hs : ∀ x : Nat, (x : Int) ∈ l → ((s x : Nat) : Int) = nextI l (x : Int)) {x y : Nat} (hx : (x : Int) ∈ l) (hy : (y : Int) ∈ l) : cycR s x y := by
  obtain ⟨h1, h2⟩ := getD_idx hx
  obtain ⟨h3, h4⟩ := getD_idx hy
  refine ⟨l.idxOf (y : Int) + (l.length - l.idxOf (x : Int)), ?_⟩
  have h5 := row_iter hn hs hx (l.idxOf (y : Int) + (l.length - l.idxOf (x : Int)))
  rw [show l.idxOf (x : Int) + (l.idxOf (y : Int) + (l.length - l.idxOf (x : Int))) = l.idxOf (y : Int) + l.length by omega, Nat.add_mod_right, Nat.mod_eq_of_lt h3, h4] at h5
  have := Option.some.inj h5
  omega
theorem conn_nil_ncls (n : Nat) : ncls n (Conn []) = n := by
  have := ncls_onto (N := n) (n := n) (fun x => x) (fun x hx => hx) (fun v hv => ⟨v, hv, rfl⟩)
  rw [← ncls_congr (R := Conn []) (S := fun x y => x = y) fun x y _ _ => ?_] at this
  · exact this
  · constructor
    · intro hc
      cases hc with
      | refl => rfl
      | step _ hs => simp at hs
    · rintro rfl; exact .refl
open Classical in
theorem ncls_one {N : Nat} {R : Nat → Nat → Prop} (hR : Eqv N R) (h : ncls N R = 1) {x y : Nat} (hx : x < N) (hy : y < N) : R x y := by
  unfold ncls at h
  generalize hl : List.filter _ (List.range N) = l at h
  have hmem : ∀ h, h ∈ l ↔ h < N ∧ ∀ y, y < N → R h y → h ≤ y := fun h => by rw [← hl]; simp
  have lead : ∀ x, x < N → ∃ m, m < N ∧ R x m ∧ m ∈ l := fun x hx => by
    obtain ⟨m, m1, ⟨m2, m3⟩, m4⟩ := least_of (P := fun y => y < N ∧ R x y) ⟨hx, hR.refl x hx⟩
    exact ⟨m, m2, m3, (hmem m).2 ⟨m2, fun y hy hr => m4 y ⟨hy, hR.trans x m y hx m2 hy m3 hr⟩⟩⟩
  obtain ⟨a, a1, a2, a3⟩ := lead x hx
  obtain ⟨b, b1, b2, b3⟩ := lead y hy
  obtain ⟨c, rfl⟩ : ∃ c, l = [c] := List.length_eq_one_iff.1 h
  have e : a = b := by simp at a3 b3; rw [a3, b3]
  subst e
  exact hR.trans x a y hx a1 hy a2 (hR.symm y a hy a1 b2)
theorem cyc_congr {N : Nat} {f g : Nat → Nat} (hf : PermN N f) (h : ∀ x, x < N → f x = g x) {x y : Nat} (hx : x < N) : cycR f x y ↔ cycR g x y := by
  have key : ∀ i, it g i x = it f i x := fun i => by
    induction i with
    | zero => rfl
    | succ i ih =>
      show g (it g i x) = f (it f i x)
      rw [ih]; exact (h _ (hf.it_lt hx i)).symm
  constructor
  · rintro ⟨i, hi⟩; exact ⟨i, by rw [key]; exact hi⟩
  · rintro ⟨i, hi⟩; exact ⟨i, by rw [← key]; exact hi⟩
def sR (L : List (Int × Int)) (ar : List (List Int)) (x : Nat) : Nat := (nextR L ar x).toNat
def gR (L : List (Int × Int)) (x : Nat) : Nat := (atL L x).toNat
theorem emb_of {r : R} (hr : ROk r) : Emb (endsL r.es).length r.n.toNat (endsL r.es) (sR (endsL r.es) r.ar) (gR (endsL r.es)) := by
  refine ⟨rfl, ⟨fun x hx => ?_, fun x y hx hy e => ?_⟩, fun x hx => ?_, fun k hk => ?_, fun x hx => ?_⟩
  · have := hr.next hx; unfold sR; omega
  · have h1 := hr.next hx
    have h2 := hr.next hy
    unfold sR at e
    exact hr.next_inj hx hy (by omega)
  · have := atL_range hr.c hx; unfold gR; omega
  · have h1 := atL_range hr.c (show 2 * k < 2 * (endsL r.es).length by omega)
    have h2 := atL_range hr.c (show 2 * k + 1 < 2 * (endsL r.es).length by omega)
    have e := List.getElem?_eq_getElem hk
    have a1 : atL (endsL r.es) (2 * k) = (endsL r.es)[k].1 := by
      unfold atL; rw [if_pos (by omega), show 2 * k / 2 = k by omega, List.getD_eq_getElem?_getD, e]; rfl
    have a2 : atL (endsL r.es) (2 * k + 1) = (endsL r.es)[k].2 := by
      unfold atL; rw [if_neg (by omega), show (2 * k + 1) / 2 = k by omega, List.getD_eq_getElem?_getD, e]; rfl
    rw [e]
    congr 1
    refine Prod.ext ?_ ?_
    · show _ = (((atL (endsL r.es) (2 * k)).toNat : Nat) : Int); rw [← a1]; omega
    · show _ = (((atL (endsL r.es) (2 * k + 1)).toNat : Nat) : Int); rw [← a2]; omega
  · show (atL (endsL r.es) (sR (endsL r.es) r.ar x)).toNat = (atL (endsL r.es) x).toNat
    unfold sR
    rw [(hr.next hx).2.2]
theorem euler_of {r : R} (hr : ROk r) : (facesR r).length + r.n.toNat ≤ (endsL r.es).length + 2 ∧ ((facesR r).length + r.n.toNat + (endsL r.es).length) % 2 = 0 ∧ 1 ≤ (facesR r).length := by
  have h12 : 1 ≤ r.n ∧ r.n ≤ 12 := (checkG_zero.1 hr.c).1
  have hpc : partsN r.g.es r.n.toNat r.n.toNat = 1 := of_decide_eq_true hr.conn
  rw [parts_ncls hr.c (by show r.n = _; omega)] at hpc
  have hpc2 : ncls r.n.toNat (Conn (endsL r.es)) = 1 := hpc
  clear hpc
  by_cases hE : (endsL r.es).length = 0
  · have e : endsL r.es = [] := List.length_eq_zero_iff.1 hE
    have hf : facesR r = [[]] := by unfold facesR; rw [if_pos hE]
    rw [e, conn_nil_ncls] at hpc2
    rw [hf, e, hpc2]
    decide
  · have hem := emb_of hr
    have hf : facesR r = facesN (fR (endsL r.es) r.ar) (2 * (endsL r.es).length) (2 * (endsL r.es).length) := by unfold facesR; rw [if_neg hE]
    have hfl : (facesR r).length = ncls (2 * (endsL r.es).length) (cycR (midF (sR (endsL r.es) r.ar) (endsL r.es).length)) := by
      rw [hf, faces_ncls hr.perm]
      refine ncls_congr fun x y hx hy => cyc_congr hr.perm (fun z hz => ?_) hx
      unfold midF; rw [if_pos hz]; rfl
    have h0 : ncls (2 * (endsL r.es).length) (cycR (sR (endsL r.es) r.ar)) = r.n.toNat := by
      rw [ncls_congr (S := fun x y => gR (endsL r.es) x = gR (endsL r.es) y)]
      · refine ncls_onto _ hem.lt fun v hv => ?_
        have hc := ncls_one (conn_eqv _ _) hpc2 (hem.lt 0 (by omega)) hv
        cases hc with
        | refl => exact ⟨0, by omega, rfl⟩
        | @step b c _ hs =>
          have get : ∀ p, p ∈ endsL r.es → ∃ k, k < (endsL r.es).length ∧ p = (((gR (endsL r.es) (2 * k) : Nat) : Int), ((gR (endsL r.es) (2 * k + 1) : Nat) : Int)) := fun p hp => by
            obtain ⟨k, hk, e⟩ := List.mem_iff_getElem.1 hp
            refine ⟨k, hk, ?_⟩
            have := hem.ends k hk
            rw [List.getElem?_eq_getElem hk, e] at this
            exact Option.some.inj this
          rcases hs with hs | hs
          · obtain ⟨k, hk, e⟩ := get _ hs
            have := congrArg Prod.snd e
            simp only at this
            exact ⟨2 * k + 1, by omega, by omega⟩
          · obtain ⟨k, hk, e⟩ := get _ hs
            have := congrArg Prod.fst e
            simp only at this
            exact ⟨2 * k, by omega, by omega⟩
      · intro x y hx hy
        constructor
        · rintro ⟨i, rfl⟩
          clear hy
          induction i with
          | zero => rfl
          | succ i ih =>
            show _ = gR (endsL r.es) (sR (endsL r.es) r.ar (it (sR (endsL r.es) r.ar) i x))
            rw [hem.keep _ (hem.perm.it_lt hx i)]; exact ih
        · intro hg
          have ax := atL_range hr.c hx
          have ay := atL_range hr.c hy
          have hat : atL (endsL r.es) x = atL (endsL r.es) y := by unfold gR at hg; omega
          obtain ⟨l, q1, q2, q3, q4⟩ := hr.row hx
          refine row_cyc q3.nd (fun z hz => ?_) q4 (q3.sup _ (ownL_mem.2 ⟨by omega, by omega, by rw [Int.toNat_natCast]; exact hat.symm⟩))
          have hz2 := ownL_mem.1 (q3.sub _ hz)
          rw [Int.toNat_natCast] at hz2
          have hzl : z < 2 * (endsL r.es).length := by omega
          have hzn := hr.next hzl
          have : nextR (endsL r.es) r.ar z = nextI l (z : Int) := by unfold nextR; rw [hz2.2.2, q2]
          unfold sR
          rw [← this]; omega
    obtain ⟨b1, b2⟩ := hem.bound h0 (endsL r.es).length (Nat.le_refl _)
    rw [List.take_length, hpc2] at b1
    refine ⟨by omega, by omega, ?_⟩
    rw [hf]
    have hz : leadB (fR (endsL r.es) r.ar) (2 * (endsL r.es).length) 0 = true := leadB_iff.2 fun y _ => Nat.zero_le _
    unfold facesN
    rw [List.length_map]
    exact List.length_pos_of_mem (leadsL_mem.2 ⟨by omega, hz⟩)
end Go.Proofs.YtfkegnhpihoncaaGreat
set_option linter.all false
namespace Go.Proofs.YtfkegnhpihoncaaGreat
open Go.Sp
set_option linter.unusedSimpArgs false
set_option linter.unusedVariables false
structure TF (F : List Nat) (rt dp : Nat → Nat) : Prop where
  len : F.length = 12
  lt : ∀ i (h : i < F.length), F[i] < 12
  same : ∀ i (h : i < F.length), rt F[i] = rt i
  self : ∀ i (h : i < F.length), F[i] = i → rt i = i
  down : ∀ i (h : i < F.length), F[i] ≠ i → dp F[i] < dp i
  rlt : ∀ i, i < 12 → rt i < 12
  fix : ∀ i, i < 12 → F[rt i]? = some (rt i)
theorem TF.zero : TF (List.range 12) (fun v => v) (fun _ => 0) :=
  ⟨by simp, fun i h => by simpa using h, fun i h => by simp, fun i h _ => rfl, fun i h e => absurd (by simp) e, fun i h => h, fun i h => by simp [h]⟩
section
variable {F : List Nat} {rt dp : Nat → Nat}
theorem TF.stay (h : TF F rt dp) {a b : Nat} (ha : a < 12) (e : rt a = rt b) : F.set (rt a) (rt b) = F := by
  have fa := h.fix a ha
  obtain ⟨q1, q2⟩ := List.getElem?_eq_some_iff.1 fa
  apply List.ext_getElem?
  intro i
  by_cases hi : rt a = i
  · subst hi; rw [List.getElem?_set_self q1, fa, e]
  · rw [List.getElem?_set_ne hi]
end
structure TC (L : List (Int × Int)) (F : List Nat) (rt dp : Nat → Nat) : Prop where
  tf : TF F rt dp
  conn : ∀ u w, u < 12 → w < 12 → (rt u = rt w ↔ Conn L u w)
def TCe (L : List (Int × Int)) (F : List Nat) : Prop := ∃ rt dp, TC L F rt dp
theorem conn_none {u w : Nat} : Conn [] u w ↔ u = w := by
  constructor
  · intro h
    cases h with
    | refl => rfl
    | step _ hs => simp at hs
  · rintro rfl; exact .refl
theorem TCe.zero : TCe [] (List.range 12) := ⟨_, _, TF.zero, fun u w _ _ => conn_none.symm⟩
def acyc (M : List (Int × Int)) : Prop := ∀ k p, M[k]? = some p → ¬ Conn (M.take k) p.1.toNat p.2.toNat
open Classical in
theorem ncls_pos {n : Nat} {R : Nat → Nat → Prop} (h : 0 < n) : 1 ≤ ncls n R := by
  unfold ncls
  exact List.length_pos_of_mem (List.mem_filter.2 ⟨List.mem_range.2 h, decide_eq_true fun y _ _ => Nat.zero_le _⟩)
def InN (n : Nat) (M : List (Int × Int)) : Prop := ∀ p, p ∈ M → (0 ≤ p.1 ∧ p.1 < n) ∧ (0 ≤ p.2 ∧ p.2 < n)
def pkL (L : List (Int × Int)) (t : List Int) : List (Int × Int) := t.map fun x => L.getD x.toNat (0, 0)
open Classical in
noncomputable def treeB (n : Nat) (L : List (Int × Int)) (t : List Int) : Bool := decide ((t.length : Int) = n - 1 ∧ ncls n (Conn (pkL L t)) = 1)
noncomputable def treeE (g : G) (t : List Int) : Int :=
  if joinedE g ≠ 0 then joinedE g else if subE (endsL g.es).length none t ≠ 0 then subE (endsL g.es).length none t
  else if (t.length : Int) ≠ g.n - 1 then 8 else if treeB g.n.toNat (endsL g.es) t = true then 0 else 3
end Go.Proofs.YtfkegnhpihoncaaGreat
set_option linter.all false
namespace Go.Proofs.YtfkegnhpihoncaaGreat
open Go.Sp
set_option linter.unusedSimpArgs false
set_option linter.unusedVariables false
set_option maxHeartbeats 4000000
set_option maxRecDepth 100000
theorem conn_parts {g : G} {n : Nat} (hc : checkG g = 0) (hn : g.n = n) : connB g = decide (ncls n (Conn (endsL g.es)) = 1) := by
  unfold connB
  rw [show g.n.toNat = n by omega, parts_ncls hc hn]
end Go.Proofs.YtfkegnhpihoncaaGreat
set_option linter.all false
namespace Go.Proofs.YtfkegnhpihoncaaGreat
open Go.Sp
set_option linter.unusedSimpArgs false
set_option linter.unusedVariables false
set_option maxHeartbeats 4000000
set_option maxRecDepth 100000
def refsT (base n i : Nat) : List (List ACap) := (List.range i).map fun j => [.ref (j + base) 1 0 n n]
def rowB (r : List Int) : Blk := .box (iC r)
end Go.Proofs.YtfkegnhpihoncaaGreat
set_option linter.all false
namespace Go.Proofs.YtfkegnhpihoncaaGreat
open Go.Sp
set_option linter.unusedSimpArgs false
set_option linter.unusedVariables false
set_option maxHeartbeats 4000000
set_option maxRecDepth 100000
def tabRows (T : List (List Int)) : List (List Tree) := (T.map fun r => Tree.slice (iRows r)).map fun t => [t]
def tTab (T : List (List Int)) : TVal := .t (.slice (tabRows T))
attribute [go_sem] tTab
def cellT (T : List (List Int)) (a b : Nat) : Int := (T.getD a []).getD b 0
structure Sq (n : Nat) (T : List (List Int)) : Prop where
  len : T.length = n
  row : ∀ r, r ∈ T → r.length = n
theorem Sq.get {n : Nat} {T : List (List Int)} (h : Sq n T) {a b : Nat} (ha : a < n) (hb : b < n) : ∃ r, T[a]? = some r ∧ r.length = n ∧ r[b]? = some (cellT T a b) := by
  have hal : a < T.length := by rw [h.len]; exact ha
  have hrl := h.row _ (List.getElem_mem hal)
  refine ⟨T[a], List.getElem?_eq_getElem hal, hrl, ?_⟩
  unfold cellT
  rw [List.getD_eq_getElem?_getD (l := T), List.getElem?_eq_getElem hal, Option.getD_some, List.getD_eq_getElem?_getD, List.getElem?_eq_getElem (by omega)]; rfl
def rowE (f : Nat → Int) (a b : Nat) : List E := (List.range b).filterMap fun j => if a ≤ j ∧ 0 < f j then some ⟨a, j, f j⟩ else none
def joinE (f : Nat → Nat → Int) (n a : Nat) : List E := (List.range a).flatMap fun i => rowE (f i) i n
@[simp] theorem rowE_start (f : Nat → Int) (a : Nat) : rowE f a a = [] := by
  simp only [rowE, List.filterMap_eq_nil_iff, List.mem_range]
  intro j hj
  rw [if_neg (by omega)]
end Go.Proofs.YtfkegnhpihoncaaGreat
set_option linter.all false
namespace Go.Proofs.YtfkegnhpihoncaaGreat
open Go.Sp
set_option linter.unusedSimpArgs false
set_option linter.unusedVariables false
set_option maxHeartbeats 4000000
set_option maxRecDepth 100000
def treesI (r : List Int) : List Tree := r.map fun x => Tree.int .i64 x
def roB (r : List Int) : Blk := .ro (treesI r)
section
variable {P : Program} {rd : Option Nat} {h : Nat} {Q : Exit → St → Prop} {c : Code} {tm : List AVal}
end
def tabF (n : Nat) (g : Nat → Nat → Int) : List (List Int) := (List.range n).map fun a => (List.range n).map fun b => g a b
theorem tabF_sq (n : Nat) (g : Nat → Nat → Int) : Sq n (tabF n g) := ⟨by simp [tabF], fun r hr => by obtain ⟨a, _, rfl⟩ := List.mem_map.1 hr; simp⟩
@[simp] theorem tabF_take (n : Nat) (g : Nat → Nat → Int) : (tabF n g).take n = tabF n g := List.take_of_length_le (by rw [(tabF_sq n g).len]; exact Nat.le_refl _)
@[simp] theorem tab_take (n : Nat) (g : Nat → Nat → Int) : ((tabF n g).map rowB).take n = (tabF n g).map rowB := List.take_of_length_le (by rw [List.length_map, (tabF_sq n g).len]; exact Nat.le_refl _)
def gI (f : Nat → Nat → Int) (i k a b : Nat) : Int := if a ≤ b ∧ (a < i ∨ (a = i ∧ b < k)) then f a b else 0
def pairF (es : List E) (l : List Int) (a b : Nat) : Int := cntL es (min (l.getD a 0) (l.getD b 0)) (max (l.getD a 0) (l.getD b 0))
end Go.Proofs.YtfkegnhpihoncaaGreat
set_option linter.all false
namespace Go.Proofs.YtfkegnhpihoncaaGreat
open Go.Sp
set_option linter.unusedSimpArgs false
set_option linter.unusedVariables false
set_option maxHeartbeats 4000000
set_option maxRecDepth 100000
end Go.Proofs.YtfkegnhpihoncaaGreat
set_option linter.all false
namespace Go.Proofs.YtfkegnhpihoncaaGreat
open Go.Sp
set_option linter.unusedSimpArgs false
set_option linter.unusedVariables false
theorem cntL_of_mem {es : List E} (h : distinctE es) {x : E} (hx : x ∈ es) : cntL es x.a x.b = x.m := by
  induction es with
  | nil => cases hx
  | cons y ys ih =>
    have hp := List.pairwise_cons.1 h
    simp only [cntL]
    rcases List.mem_cons.1 hx with rfl | hx
    · rw [if_pos ⟨rfl, rfl⟩]
    · have := hp.1 x hx
      unfold neE at this
      rw [if_neg (by omega), ih hp.2 hx]
theorem mem_of_cntL {es : List E} {a b : Int} (h : cntL es a b ≠ 0) : (⟨a, b, cntL es a b⟩ : E) ∈ es := by
  induction es with
  | nil => simp [cntL] at h
  | cons y ys ih =>
    simp only [cntL] at h ⊢
    by_cases hy : y.a = a ∧ y.b = b
    · rw [if_pos hy]
      obtain ⟨ya, yb, ym⟩ := y
      simp only at hy
      obtain ⟨rfl, rfl⟩ := hy
      simp
    · rw [if_neg hy] at h ⊢
      exact List.mem_cons_of_mem _ (ih h)
end Go.Proofs.YtfkegnhpihoncaaGreat
