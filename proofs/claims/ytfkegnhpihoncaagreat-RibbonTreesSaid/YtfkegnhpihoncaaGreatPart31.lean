/- A part of the proof. -/
import Derived.Test.YtfkegnhpihoncaaGreatPart02
import Derived.Test.YtfkegnhpihoncaaGreatPart30
import Derived.Test.YtfkegnhpihoncaaGreatPart24
import Derived.Test.YtfkegnhpihoncaaGreatPart11
import Derived.Test.YtfkegnhpihoncaaGreatPart25
import Derived.Test.YtfkegnhpihoncaaGreatLayerC
import Derived.Test.YtfkegnhpihoncaaGreatPart13
import Derived.Test.YtfkegnhpihoncaaGreatPart22
import Derived.Test.YtfkegnhpihoncaaGreatPart16
import Derived.Test.YtfkegnhpihoncaaGreatPart21
import Derived.Test.YtfkegnhpihoncaaGreatLayerD
import Derived.Test.YtfkegnhpihoncaaGreatPart10
import Derived.Test.YtfkegnhpihoncaaGreatPart12
set_option linter.all false
set_option maxHeartbeats 4000000
set_option maxRecDepth 100000
namespace Go.Proofs.YtfkegnhpihoncaaGreat
open Go.Sp
open Classical in
theorem faces_ncls {N : Nat} {f : Nat → Nat} (hp : PermN N f) : (facesN f N N).length = ncls N (cycR f) := by
 unfold facesN leadsL ncls
 rw [List.length_map]
 congr 1
 refine List.filter_congr fun h hh => ?_
 have hh' := List.mem_range.1 hh
 rw [Bool.eq_iff_iff, leadB_iff, decide_eq_true_eq]
 constructor
 ·intro H y hy ⟨i, hi⟩
  exact H y ((face_mem hp hh').2 ⟨i, hi⟩)
 ·intro H y hy
  exact H y (face_lt hp hh' hy) ((face_mem hp hh').1 hy)
open Classical in
theorem ncls_onto {N n : Nat} (g : Nat → Nat) (hr : ∀ x, x < N → g x < n) (hs : ∀ v, v < n → ∃ x, x < N ∧ g x = v) : ncls N (fun x y => g x = g y) = n := by
 unfold ncls
 generalize hl : List.filter _ (List.range N) = l
 have hmem : ∀ h, h ∈ l ↔ h < N ∧ ∀ y, y < N → g h = g y → h ≤ y := fun h => by rw [← hl]; simp
 have hnd : l.Nodup := by rw [← hl]; exact List.nodup_range.filter _
 have hinj : ∀ a b, a ∈ l → b ∈ l → g a = g b → a = b := fun a b ha hb e => by
  have h1 := (hmem a).1 ha
  have h2 := (hmem b).1 hb
  have := h1.2 b h2.1 e
  have := h2.2 a h1.1 e.symm
  omega
 have hnd2 : (l.map g).Nodup := by
  rw [List.Nodup, List.pairwise_map]
  exact List.Pairwise.imp_of_mem (fun {a b} ha hb hne e => hne (hinj a b ha hb e)) hnd
 have h1 := List.Nodup.length_le_of_subset hnd2 (l₂ := List.range n) (fun v hv => by
  obtain ⟨x, hx, rfl⟩ := List.mem_map.1 hv
  exact List.mem_range.2 (hr x ((hmem x).1 hx).1))
 have h2 := List.Nodup.length_le_of_subset (List.nodup_range (n := n)) (l₂ := l.map g) (fun v hv => by
  obtain ⟨x, hx, e⟩ := hs v (List.mem_range.1 hv)
  obtain ⟨m, m1, ⟨m2, m3⟩, m4⟩ := least_of (P := fun y => y < N ∧ g y = v) ⟨hx, e⟩
  exact List.mem_map.2 ⟨m, (hmem m).2 ⟨m2, fun y hy he => m4 y ⟨hy, by rw [← he, m3]⟩⟩, m3⟩)
 simp at h1 h2
 omega
theorem conn_snoc {l : List (Int × Int)} {a b : Nat} {x y : Nat} : Conn (l ++ [((a : Int), (b : Int))]) x y ↔ Conn l x y ∨ (Conn l a x ∨ Conn l b x) ∧ (Conn l a y ∨ Conn l b y) := by
 constructor
 ·intro h
  induction h with
  | refl => exact .inl .refl
  | @step u w _ hs ih =>
   have hor : (((u : Int), (w : Int)) ∈ l ∨ ((w : Int), (u : Int)) ∈ l) ∨ (u = a ∧ w = b) ∨ (u = b ∧ w = a) := by
    rcases hs with h | h <;> rcases List.mem_append.1 h with h | h
    ·exact .inl (.inl h)
    ·simp at h; exact .inr (.inl ⟨by omega, by omega⟩)
    ·exact .inl (.inr h)
    ·simp at h; exact .inr (.inr ⟨by omega, by omega⟩)
   rcases hor with h | ⟨rfl, rfl⟩ | ⟨rfl, rfl⟩
   ·rcases ih with ih | ⟨i1, i2⟩
    ·exact .inl (ih.step h)
    ·exact .inr ⟨i1, i2.imp (fun q => q.step h) (fun q => q.step h)⟩
   ·rcases ih with ih | ⟨i1, i2⟩
    ·exact .inr ⟨.inl ih.symm, .inr .refl⟩
    ·exact .inr ⟨i1, .inr .refl⟩
   ·rcases ih with ih | ⟨i1, i2⟩
    ·exact .inr ⟨.inr ih.symm, .inl .refl⟩
    ·exact .inr ⟨i1, .inl .refl⟩
 ·have hm : ∀ {u w}, Conn l u w → Conn (l ++ [((a : Int), (b : Int))]) u w := fun h => h.mono fun p hp => List.mem_append_left _ hp
  have hab : Conn (l ++ [((a : Int), (b : Int))]) a b := .one (.inl (by simp))
  rintro (h | ⟨h1, h2⟩)
  ·exact hm h
  ·rcases h1 with h1 | h1 <;> rcases h2 with h2 | h2
   ·exact (hm h1).symm.trans (hm h2)
   ·exact (hm h1).symm.trans (hab.trans (hm h2))
   ·exact (hm h1).symm.trans (hab.symm.trans (hm h2))
   ·exact (hm h1).symm.trans (hm h2)
theorem conn_eqv (N : Nat) (l : List (Int × Int)) : Eqv N (Conn l) := ⟨fun _ _ => .refl, fun _ _ _ _ h => h.symm, fun _ _ _ _ _ _ h1 h2 => h1.trans h2⟩
open Classical in
theorem parts_ncls {g : G} {n : Nat} (hc : checkG g = 0) (hn : g.n = n) : partsN g.es n n = ncls n (Conn (endsL g.es)) := by
 have h12 := (checkG_zero.1 hc).1
 have h1 := parts_roots hc hn n (Nat.le_refl _)
 rw [rootsN_filter] at h1
 have h2 : partsN g.es n n = ((List.range n).filter fun v => decide ((genS (endsL g.es)).1[v]? = some v)).length := by omega
 rw [h2]
 unfold ncls
 congr 1
 refine List.filter_congr fun v hv => ?_
 have hv' := List.mem_range.1 hv
 have hin : In12 (endsL g.es) := fun p hp => by have := ends_in hc hn p hp; omega
 rw [decide_eq_decide, isRoot_iff hin (by omega)]
 constructor
 ·intro H y hy hcn
  exact Nat.le_of_not_lt fun hlt => H ⟨y, hlt, hcn.symm⟩
 ·rintro H ⟨u, hu, hcn⟩
  have := H u (by omega) hcn.symm
  omega
def midF (s : Nat → Nat) (k x : Nat) : Nat := if x < 2 * k then s (oppH x) else s x
theorem mid_step (s : Nat → Nat) (k : Nat) : midF s (k + 1) = swapF (midF s k) (2 * k) (2 * k + 1) := by
 have e1 : oppH (2 * k) = 2 * k + 1 := by unfold oppH; omega
 have e2 : oppH (2 * k + 1) = 2 * k := by unfold oppH; omega
 funext x
 unfold swapF midF
 by_cases h1 : x = 2 * k
 ·subst h1
  rw [if_pos (by omega), if_pos rfl, if_neg (by omega), e1]
 ·by_cases h2 : x = 2 * k + 1
  ·subst h2
   rw [if_pos (by omega), if_neg (by omega), if_pos rfl, if_neg (by omega), e2]
  ·rw [if_neg h1, if_neg h2]
   by_cases h3 : x < 2 * k
   ·rw [if_pos h3, if_pos (by omega)]
   ·rw [if_neg h3, if_neg (by omega)]
structure Emb (E n : Nat) (L : List (Int × Int)) (s : Nat → Nat) (g : Nat → Nat) : Prop where
 len : L.length = E
 perm : PermN (2 * E) s
 lt : ∀ x, x < 2 * E → g x < n
 ends : ∀ k, k < E → L[k]? = some (((g (2 * k) : Nat) : Int), ((g (2 * k + 1) : Nat) : Int))
 keep : ∀ x, x < 2 * E → g (s x) = g x
section
variable {E n : Nat} {L : List (Int × Int)} {s g : Nat → Nat}
theorem Emb.mid_perm (h : Emb E n L s g) : ∀ k, k ≤ E → PermN (2 * E) (midF s k)
 | 0, _ => by
  have e : midF s 0 = s := by funext x; unfold midF; rw [if_neg (by omega)]
  rw [e]; exact h.perm
 | k + 1, hk => by rw [mid_step]; exact swap_perm (h.mid_perm k (by omega)) (by omega) (by omega)
theorem Emb.within (h : Emb E n L s g) {k : Nat} (hk : k ≤ E) {x y : Nat} (hx : x < 2 * E) (hc : cycR (midF s k) x y) : Conn (L.take k) (g x) (g y) := by
 obtain ⟨i, rfl⟩ := hc
 induction i with
 | zero => exact .refl
 | succ i ih =>
  have hl := (h.mid_perm k hk).it_lt hx i
  show Conn (L.take k) (g x) (g (midF s k (it (midF s k) i x)))
  generalize it (midF s k) i x = z at *
  unfold midF
  by_cases hz : z < 2 * k
  ·rw [if_pos hz]
   have ho : oppH z < 2 * E := by unfold oppH; omega
   rw [h.keep _ ho]
   have he := h.ends (z / 2) (by omega)
   have hm : (((g (2 * (z / 2)) : Nat) : Int), ((g (2 * (z / 2) + 1) : Nat) : Int)) ∈ L.take k := by
    refine List.mem_of_getElem? (i := z / 2) ?_
    rw [List.getElem?_take, if_pos (by omega), he]
   have hz2 : z = 2 * (z / 2) ∨ z = 2 * (z / 2) + 1 := by omega
   rcases hz2 with e | e
   ·have e3 : oppH z = 2 * (z / 2) + 1 := by unfold oppH; omega
    rw [e3]
    generalize 2 * (z / 2) = u at *
    subst e
    exact ih.step (.inl hm)
   ·have e3 : oppH z = 2 * (z / 2) := by unfold oppH; omega
    rw [e3]
    generalize 2 * (z / 2) = u at *
    subst e
    exact ih.step (.inr hm)
  ·rw [if_neg hz, h.keep _ hl]
   exact ih
theorem Emb.bound (h : Emb E n L s g) (h0 : ncls (2 * E) (cycR s) = n) : ∀ k, k ≤ E → ncls (2 * E) (cycR (midF s k)) + n ≤ k + 2 * ncls n (Conn (L.take k)) ∧ (ncls (2 * E) (cycR (midF s k)) + n + k) % 2 = 0
 | 0, _ => by
  have e : midF s 0 = s := by funext x; unfold midF; rw [if_neg (by omega)]
  have e2 : ncls n (Conn (L.take 0)) = n := by
   have := ncls_onto (N := n) (n := n) (fun x => x) (fun x hx => hx) (fun v hv => ⟨v, hv, rfl⟩)
   rw [← ncls_congr (R := Conn (L.take 0)) (S := fun x y => x = y) fun x y _ _ => ?_] at this
   ·exact this
   ·constructor
    ·intro hc
     cases hc with
     | refl => rfl
     | step _ hs => simp at hs
    ·rintro rfl; exact .refl
  rw [e, h0, e2]
  omega
 | k + 1, hk => by
  obtain ⟨i1, i2⟩ := h.bound h0 k (by omega)
  have ha : 2 * k < 2 * E := by omega
  have hb : 2 * k + 1 < 2 * E := by omega
  have htk : L.take (k + 1) = L.take k ++ [(((g (2 * k) : Nat) : Int), ((g (2 * k + 1) : Nat) : Int))] := by
   have he := h.ends k (by omega)
   obtain ⟨q1, q2⟩ := List.getElem?_eq_some_iff.1 he
   rw [List.take_succ_eq_append_getElem q1, q2]
  have hsw := swap_count (h.mid_perm k (by omega)) ha hb (by omega)
  rw [← mid_step] at hsw
  have hga := h.lt _ ha
  have hgb := h.lt _ hb
  by_cases hc : Conn (L.take k) (g (2 * k)) (g (2 * k + 1))
  ·have e : ncls n (Conn (L.take (k + 1))) = ncls n (Conn (L.take k)) := ncls_congr fun x y _ _ => by
    rw [htk, conn_snoc]
    constructor
    ·rintro (q | ⟨q1, q2⟩)
     ·exact q
     ·rcases q1 with q1 | q1 <;> rcases q2 with q2 | q2
      ·exact q1.symm.trans q2
      ·exact q1.symm.trans (hc.trans q2)
      ·exact q1.symm.trans (hc.symm.trans q2)
      ·exact q1.symm.trans q2
    ·exact .inl
   rw [e]
   rcases hsw with ⟨_, q⟩ | ⟨_, q⟩ <;> omega
  ·have e := ncls_join (conn_eqv n (L.take k)) hga hgb hc (S := Conn (L.take (k + 1))) fun x y _ _ => by rw [htk, conn_snoc]
   rcases hsw with ⟨q0, q⟩ | ⟨_, q⟩
   ·exact absurd (h.within (by omega) ha q0) hc
   ·omega
end
end Go.Proofs.YtfkegnhpihoncaaGreat
namespace Go.Proofs.YtfkegnhpihoncaaGreat
open Go.Sp
theorem idx_at {l : List Int} (hn : l.Nodup) {i : Nat} {x : Int} (h : l[i]? = some x) : l.idxOf x = i := by
 obtain ⟨hi, e⟩ := List.getElem?_eq_some_iff.1 h
 obtain ⟨q1, q2⟩ := getD_idx (List.mem_of_getElem? h)
 have := (List.getElem?_eq_some_iff.1 q2).2
 exact nodup_at hn q1 hi (this.trans e.symm)
def gB (L : List (Int × Int)) (ar : List (List Int)) (v i h : Nat) : Int :=
 if atL L h < v ∨ (atL L h = v ∧ (ar.getD v []).idxOf (h : Int) < i) then nextR L ar h else 0
section
variable {r : R}
theorem gB_step (hr : ROk r) {v i : Nat} {l : List Int} {x : Int} (hl : r.ar[v]? = some l) (hx : l[i]? = some x) :
  (0 ≤ x ∧ x < 2 * ((endsL r.es).length : Int)) ∧ (∃ y, l[(i + 1) % l.length]? = some y ∧ (tabI (2 * (endsL r.es).length) (gB (endsL r.es) r.ar v i)).set x.toNat y = tabI (2 * (endsL r.es).length) (gB (endsL r.es) r.ar v (i + 1))) := by
 have hok := hr.l v l hl
 have hi := (List.getElem?_eq_some_iff.1 hx).1
 have hm := ownL_mem.1 (hok.sub x (List.mem_of_getElem? hx))
 have hm2 : x < 2 * ((endsL r.es).length : Int) := by have := hm.2.1; omega
 have hgl : r.ar.getD v [] = l := by rw [List.getD_eq_getElem?_getD, hl]; rfl
 have hidx := idx_at hok.nd hx
 refine ⟨⟨hm.1, hm2⟩, ?_⟩
 have hml : (i + 1) % l.length < l.length := Nat.mod_lt _ (by omega)
 have hnx : nextR (endsL r.es) r.ar x.toNat = l[(i + 1) % l.length] := by
  unfold nextR nextI
  rw [hm.2.2, Int.toNat_natCast, hgl, show ((x.toNat : Nat) : Int) = x by omega, hidx, List.getD_eq_getElem?_getD, List.getElem?_eq_getElem hml]; rfl
 refine ⟨_, List.getElem?_eq_getElem hml, ?_⟩
 rw [tabI_set _ _ (by omega)]
 refine tabI_congr fun j hj => ?_
 unfold gB
 by_cases e : j = x.toNat
 ·subst e
  rw [if_pos rfl, if_pos (.inr ⟨hm.2.2, by rw [hgl, show ((x.toNat : Nat) : Int) = x by omega, hidx]; omega⟩), hnx]
 ·rw [if_neg e]
  have hne : l.idxOf (j : Int) ≠ i := fun h => by
   have h1 : l.idxOf (j : Int) < l.length := by omega
   have h2 := List.getElem_idxOf h1
   have h3 := (List.getElem?_eq_some_iff.1 hx).2
   have h4 : l[l.idxOf (j : Int)] = l[i] := by congr 1
   rw [h2, h3] at h4
   omega
  rw [hgl]
  by_cases h1 : atL (endsL r.es) j < v ∨ (atL (endsL r.es) j = v ∧ l.idxOf (j : Int) < i)
  ·rw [if_pos h1, if_pos (by omega)]
  ·rw [if_neg h1, if_neg (by omega)]
theorem gB_row (hr : ROk r) {v : Nat} {l : List Int} (hl : r.ar[v]? = some l) : tabI (2 * (endsL r.es).length) (gB (endsL r.es) r.ar v l.length) = tabI (2 * (endsL r.es).length) (gB (endsL r.es) r.ar (v + 1) 0) := by
 have hok := hr.l v l hl
 have hgl : r.ar.getD v [] = l := by rw [List.getD_eq_getElem?_getD, hl]; rfl
 refine tabI_congr fun j hj => ?_
 unfold gB
 rw [hgl]
 by_cases h : atL (endsL r.es) j = v
 ·have hm : (j : Int) ∈ l := hok.sup _ (ownL_mem.2 ⟨by omega, by omega, by simpa using h⟩)
  rw [if_pos (.inr ⟨h, (getD_idx hm).1⟩), if_pos (.inl (by omega))]
 ·by_cases h1 : atL (endsL r.es) j < v
  ·rw [if_pos (.inl h1), if_pos (.inl (by omega))]
  ·rw [if_neg (by omega), if_neg (by omega)]
theorem gB_zero (L : List (Int × Int)) (ar : List (List Int)) (hat : ∀ h, h < 2 * L.length → 0 ≤ atL L h) : List.replicate (2 * L.length) (0 : Int) = tabI (2 * L.length) (gB L ar 0 0) := by
 rw [tabI_rep]
 refine tabI_congr fun j hj => ?_
 have := hat j hj
 unfold gB
 rw [if_neg (by omega)]
theorem gB_all (hr : ROk r) : tabI (2 * (endsL r.es).length) (gB (endsL r.es) r.ar r.ar.length 0) = tabI (2 * (endsL r.es).length) (nextR (endsL r.es) r.ar) := by
 refine tabI_congr fun j hj => ?_
 have := atL_range hr.c hj
 have := hr.len
 unfold gB
 rw [if_pos (.inl (by omega))]
end
theorem tmodn (i n : Nat) : Int.tmod ((i : Int) + 1) (n : Int) = (((i + 1) % n : Nat) : Int) := rfl
theorem behind_ok (r : R) (hs : RSm r) (hr : ROk r) : ACall Tryz.prog 72 [tR r, tint (endsL r.es).length] (tints (tabI (2 * (endsL r.es).length) (nextR (endsL r.es) r.ar))) := by
 have hlen : (endsL r.es).length ≤ 2000 := ends_len (g := r.g) hs.es hr.c
 have hz := gB_zero (endsL r.es) r.ar fun h hh => (atL_range hr.c hh).1
 have hst := fun v i l x => gB_step hr (v := v) (i := i) (l := l) (x := x)
 have hrow := fun v l => gB_row hr (v := v) (l := l)
 have hall := gB_all hr
 have hA := hs.ar
 have hLl := hs.l
 clear hs hr
 obtain ⟨n, es, ar⟩ := r
 simp only at hlen hz hst hrow hall hA hLl ⊢
 generalize endsL es = L at *
 have h2 : ((2 : Int) * (L.length : Int)).toNat = 2 * L.length := by omega
 refine ACall.of_body Tryz.func72 rfl (by kernel_rfl) ?_
 simp only [entry, Tryz.ntmps72, tR, tint]
 refine zU ?_
 refine zR (zc @made_ints (zc @h2 (zc @llRows_len trivial))) trivial trivial ?_
 rw [hz]
 refine AWp.loopS (α:=Nat) 41 (fun v=>[(2,.c (.ptr 0 0)),(5,.c (.ref 1 1 0 (2 * L.length) (2 * L.length))),(14,.c (.slice (llRows ar) .none)),(15,.c (.int .i64 (ar.length : Int))),(16,.c (.int .i64 (v : Int)))]) (fun v=>[.box [.int .i64 n, .slice (eRows es) .none, .slice (llRows ar) .none], .box (iC (tabI (2 * L.length) (gB L ar v 0)))]) (fun v=>v ≤ ar.length) (fun v=>ar.length - v) (0) (hk:=Weak.headL 2 41 [2, 5, 14, 15, 16] (zV @iC_in)) (h0:=?_) (round:=fun v hI=>?_)
 ·exact Nat.zero_le _
 ·have hv : v ≤ ar.length := hI
  clear hI
  by_cases hlt : v < ar.length
  ·have hltI : (v : Int) < ar.length := by omega
   have e0 := List.getElem?_eq_getElem hlt
   have e1 := llRows_get e0
   have hl := hLl _ (List.getElem_mem hlt)
   have hs2 := fun i x => hst v i _ x e0
   have hr2 := hrow v _ e0
   generalize ar[v] = l at *
   refine zR (zc @hltI (zc @e1 (zc @llRows_len (zc @iRows_len trivial)))) trivial trivial ?_
   refine AWp.loopS (α:=Nat) 41 (fun i=>[(2,.c (.ptr 0 0)),(5,.c (.ref 1 1 0 (2 * L.length) (2 * L.length))),(7,.c (.slice (iRows l) .none)),(14,.c (.slice (llRows ar) .none)),(15,.c (.int .i64 (ar.length : Int))),(16,.c (.int .i64 (v : Int))),(20,.c (.slice (iRows l) .none)),(21,.c (.int .i64 (l.length : Int))),(22,.c (.int .i64 (i : Int)))]) (fun i=>[.box [.int .i64 n, .slice (eRows es) .none, .slice (llRows ar) .none], .box (iC (tabI (2 * L.length) (gB L ar v i)))]) (fun i=>i ≤ l.length) (fun i=>l.length - i) (0) (hk:=Weak.headL 2 41 [2, 5, 7, 14, 15, 16, 20, 21, 22] (zV @iC_in)) (h0:=?_) (round:=fun i hI=>?_)
   ·exact Nat.zero_le _
   ·have hi : i ≤ l.length := hI
    clear hI
    by_cases hlt2 : i < l.length
    ·have hlt2I : (i : Int) < l.length := by omega
     have f0 := List.getElem?_eq_getElem hlt2
     have f1 := iRows_get f0
     obtain ⟨⟨hx0, hx1⟩, y, hy, hset⟩ := hs2 i _ f0
     have f2 := iRows_get hy
     have hml : (i + 1) % l.length < l.length := Nat.mod_lt _ (by omega)
     have hmlI : (((i + 1) % l.length : Nat) : Int) < l.length := by omega
     have htl := tabI_len (2 * L.length) (gB L ar v i)
     generalize l[i] = x at *
     obtain ⟨x, rfl⟩ := Int.eq_ofNat_of_zero_le hx0
     rw [Int.toNat_natCast] at hset
     have htm := tmodn i l.length
     generalize hB : tabI (2 * L.length) (gB L ar v (i + 1)) = B2 at *
     generalize tabI (2 * L.length) (gB L ar v i) = B at *
     generalize (i + 1) % l.length = q at *
     refine zR (zc @hlt2I (zc @f1 (zc @f2 (zc @iRows_len (zc @htm (zc @hmlI (zc @hx1 (zc @iC_len (zc @htl (zc @iC_set (zc @hset trivial))))))))))) trivial trivial ?_
     refine ⟨i + 1,Weak.headF 2 41 [2, 5, 7, 14, 15, 16, 20, 21, 22] (zc @hB trivial) (zV @iC_in),?_,?_⟩
     ·exact hlt2
     ·omega
    ·have ei : i = l.length := by omega
     subst ei
     have hnl : ¬ ((l.length : Int) < l.length) := by omega
     rw [hr2]
     refine zR (zc @hnl trivial) trivial trivial ?_
     refine ⟨v + 1,Weak.headN 2 41 [2, 5, 14, 15, 16] (zV @iC_in),?_,?_⟩
     ·exact hlt
     ·omega
  ·have ev : v = ar.length := by omega
   subst ev
   have hnl : ¬ ((ar.length : Int) < ar.length) := by omega
   rw [hall]
   have htl := tabI_len (2 * L.length) (nextR L ar)
   generalize tabI (2 * L.length) (nextR L ar) = B at *
   repeat' ((fail_if_success (with_reducible refine AWp.atSeq 11 ?_));(fail_if_success (with_reducible refine AWp.atLast 11 ?_));first|((first|(refine zT ?_;intro K' hK')|(refine zG ?_ ?_<;>(try refine zH ?_)<;>intro hguard<;>(try exact zX)<;>try intro K' hK'))<;>((try simp +contextual only [go_sem, hnl]);(repeat' first|(with_reducible refine hK' _ _ ?_;clear hK' K')|exact zY|with_reducible refine And.intro ?_ ?_|(with_reducible intro hpath;try exact zP)|(refine hK' _ _ ?_;clear hK' K')|fail);try refine zS ?_))|(refine zE ?_;refine hK _ _ ?_;clear hK K)|(refine zN ?_;try refine zS ?_)|refine zA ?_|(refine zB ?_;intro K hK)|(refine zC ?_ ?_<;>(try refine zH ?_)<;>intro hcond<;>try exact zX)|fail)
   refine AWp.freezeR 5 1 1 (2 * L.length) (2 * L.length) rfl rfl (iC_trees _) (iRows B) (by rw [iRows_len, htl]) (Nat.le_refl _) (fun r hr => iRows_k' hr) (iRows_pre _) ?_
   simp only [List.set_cons_succ, List.set_cons_zero]
   refine zR trivial trivial trivial ?_
   simp [Rets, aret, Blk.cells, ty, Tryz.results72, ares, toT1, toT, borrow, borrow0, capCell, toTree0, tints]
theorem atL_app {L : List (Int × Int)} {p : Int × Int} {h : Nat} (hh : h < 2 * L.length) : atL (L ++ [p]) h = atL L h := by
 unfold atL
 rw [List.getD_eq_getElem?_getD, List.getD_eq_getElem?_getD, List.getElem?_append_left (by omega)]
theorem ownL_app {L : List (Int × Int)} {p : Int × Int} {v : Int} : ∀ {k : Nat}, k ≤ 2 * L.length → ownL (L ++ [p]) v k = ownL L v k
 | 0, _ => rfl
 | k + 1, h => by rw [ownL_succ, ownL_succ, atL_app (by omega), ownL_app (by omega)]
theorem own_deg (L : List (Int × Int)) (v : Int) : ((ownL L v (2 * L.length)).length : Int) = degL v L := by
 refine snoc_ind (P := fun L => ((ownL L v (2 * L.length)).length : Int) = degL v L) rfl ?_ L
 intro L p ih
 rw [List.length_append, List.length_singleton, show 2 * (L.length + 1) = 2 * L.length + 1 + 1 by omega, ownL_succ, ownL_succ, ownL_app (Nat.le_refl _), degL_snoc]
 have a1 : atL (L ++ [p]) (2 * L.length) = p.1 := by
  unfold atL
  rw [if_pos (by omega), show 2 * L.length / 2 = L.length by omega, List.getD_eq_getElem?_getD]; simp
 have a2 : atL (L ++ [p]) (2 * L.length + 1) = p.2 := by
  unfold atL
  rw [if_neg (by omega), show (2 * L.length + 1) / 2 = L.length by omega, List.getD_eq_getElem?_getD]; simp
 rw [a1, a2]
 unfold b2i
 by_cases h1 : p.1 = v <;> by_cases h2 : p.2 = v <;> simp [h1, h2] <;> omega
theorem own_degR {g : G} {n : Nat} (hc : checkG g = 0) (hn : g.n = n) {v : Int} (hv : 0 ≤ v ∧ v < n) : valR g.es v n + 2 * cntL g.es v v = (ownL (endsL g.es) v (2 * (endsL g.es).length)).length := by
 obtain ⟨h1, h2, h3⟩ := checkG_zero.1 hc
 rw [own_deg, valR_val hc hn hv]
 exact (degL_val (distinct_of h3) (fun x hx => by have := h2 x hx; unfold okE at this; omega) v).symm
theorem hd_iff {l own : List Int} (h : lstGo own [] l = 0) (hlen : l.length = own.length) (hs : own.Pairwise (· < ·)) : (l ≠ [] ∧ l.getD 0 0 ≠ own.getD 0 0) ↔ ∃ x, x ∈ l ∧ x < l.getD 0 0 := by
 obtain ⟨q1, q2, _⟩ := lstGo_zero h
 have q3 := sup_of q2 q1 hlen
 rw [List.pairwise_iff_getElem] at hs
 have hmin : ∀ x, x ∈ own → own.getD 0 0 ≤ x := fun x hx => by
  obtain ⟨k, hk, rfl⟩ := List.mem_iff_getElem.1 hx
  rw [List.getD_eq_getElem?_getD, List.getElem?_eq_getElem (by omega), Option.getD_some]
  by_cases e : k = 0
  ·subst e; exact Int.le_refl _
  ·have := hs 0 k (by omega) hk (by omega); omega
 constructor
 ·rintro ⟨h1, h2⟩
  have hp : 0 < l.length := List.length_pos_iff.2 h1
  have e1 : l.getD 0 0 = l[0] := by rw [List.getD_eq_getElem?_getD, List.getElem?_eq_getElem hp]; rfl
  have e2 : own.getD 0 0 = own[0]'(by omega) := by rw [List.getD_eq_getElem?_getD, List.getElem?_eq_getElem (by omega)]; rfl
  have h3 := hmin (l.getD 0 0) (q1 _ (by rw [e1]; exact List.getElem_mem _))
  exact ⟨own.getD 0 0, q3 _ (by rw [e2]; exact List.getElem_mem _), by omega⟩
 ·intro h
  obtain ⟨x, hx, hlt⟩ := h
  refine ⟨fun e => ?_, fun e => ?_⟩
  ·rw [e] at hx; exact absurd hx (List.not_mem_nil)
  ·have := hmin x (q1 x hx)
   omega
theorem CloneE_ok (l : List E) (hne : l ≠ []) (hl : l.length < 2 ^ 30) : ACall Tryz.prog 107 [.t (.slice (eRows l))] (.t (.slice (eRows l))) := by
 have hrn : eRows l ≠ [] := by simpa [eRows] using hne
 have hrl : (eRows l).length = l.length := eRows_len l
 have hrk : ∀ r, r ∈ eRows l → r.length = 3 := fun r hr => eRows_k' hr
 refine ACall.of_body Tryz.func107 rfl (by kernel_rfl) ?_
 simp only [entry, Tryz.ntmps107]
 refine zU ?_
 generalize eRows l = rows at *
 repeat' (first|((first|(refine zT ?_;intro K' hK')|(refine zG ?_ ?_<;>(try refine zH ?_)<;>intro hguard<;>(try exact zX)<;>try intro K' hK'))<;>((try simp +contextual only [go_sem, hrl, chunks, List.range, List.range.loop]);(repeat' first|(with_reducible refine hK' _ _ ?_;clear hK' K')|(exact hrn)|(with_reducible exact hrk _ (by assumption))|(exact .inr True.intro)|exact zY|with_reducible refine And.intro ?_ ?_|(with_reducible intro hpath;try exact zP)|(refine hK' _ _ ?_;clear hK' K')|fail);try refine zS ?_))|(refine zE ?_;refine hK _ _ ?_;clear hK K)|(refine zN ?_;try refine zS ?_)|refine zA ?_|(refine zB ?_;intro K hK)|(refine zC ?_ ?_<;>(try refine zH ?_)<;>intro hcond<;>try exact zX)|fail)
 simp [Rets, aret, Blk.cells, ty, Tryz.results107, ares, toT1, toT, borrow, borrow0, capCell, toTree0]
theorem CloneE_none : ACall Tryz.prog 107 [.t (.slice [])] (.t (.slice [])) := by
 refine ACall.of_body Tryz.func107 rfl (by kernel_rfl) ?_
 simp only [entry, Tryz.ntmps107]
 refine zU ?_
 repeat' (first|((with_reducible refine AWp.seq (AWp.of_reg (id:=1) (AReg.pre 1 (fun K hK=>?_))));simp only [List.take_succ_cons,List.take_zero])|((with_reducible refine AWp.of_reg (id:=1) (AReg.pre 1 (fun K hK=>?_)));simp only [List.take_succ_cons,List.take_zero])|((first|(refine zT ?_;intro K' hK')|(refine zG ?_ ?_<;>(try refine zH ?_)<;>intro hguard<;>(try exact zX)<;>try intro K' hK'))<;>((try simp +contextual only [go_sem]);(repeat' first|(with_reducible refine hK' _ _ ?_;clear hK' K')|exact zY|with_reducible refine And.intro ?_ ?_|(with_reducible intro hpath;try exact zP)|(refine hK' _ _ ?_;clear hK' K')|fail);try refine zS ?_))|(refine zE ?_;refine hK _ _ ?_;clear hK K)|(refine zN ?_;try refine zS ?_)|refine zA ?_|(refine zB ?_;intro K hK)|(refine zC ?_ ?_<;>(try refine zH ?_)<;>intro hcond<;>try exact zX)|fail)
 simp only [List.drop_succ_cons, List.drop_zero]
 refine AReg.nilq (e := 76) false rfl rfl rfl (by simp only [ty]) rfl rfl (fun b => AReg.rest (fun K hK => ?_))
 cases b
 ·
  repeat' (first|((first|(refine zT ?_;intro K' hK')|(refine zG ?_ ?_<;>(try refine zH ?_)<;>intro hguard<;>(try exact zX)<;>try intro K' hK'))<;>((try simp +contextual only [go_sem, List.length_nil, chunks, List.range, List.range.loop, List.map_nil]);(repeat' first|(with_reducible refine hK' _ _ ?_;clear hK' K')|(exact .inr True.intro)|(exact absurd True.intro (by assumption))|exact zY|with_reducible refine And.intro ?_ ?_|(with_reducible intro hpath;try exact zP)|(refine hK' _ _ ?_;clear hK' K')|fail);try refine zS ?_))|(refine zE ?_;refine hK _ _ ?_;clear hK K)|(refine zN ?_;try refine zS ?_)|refine zA ?_|(refine zB ?_;intro K hK)|(refine zC ?_ ?_<;>(try refine zH ?_)<;>intro hcond<;>try exact zX)|fail)
  simp [Rets, aret, Blk.cells, ty, Tryz.results107, ares, toT1, toT, borrow, borrow0, capCell, toTree0]
 ·
  repeat' (first|((first|(refine zT ?_;intro K' hK')|(refine zG ?_ ?_<;>(try refine zH ?_)<;>intro hguard<;>(try exact zX)<;>try intro K' hK'))<;>((try simp +contextual only [go_sem]);(repeat' first|(with_reducible refine hK' _ _ ?_;clear hK' K')|exact zY|with_reducible refine And.intro ?_ ?_|(with_reducible intro hpath;try exact zP)|(refine hK' _ _ ?_;clear hK' K')|fail);try refine zS ?_))|(refine zE ?_;refine hK _ _ ?_;clear hK K)|(refine zN ?_;try refine zS ?_)|refine zA ?_|(refine zB ?_;intro K hK)|(refine zC ?_ ?_<;>(try refine zH ?_)<;>intro hcond<;>try exact zX)|fail)
  simp [Rets, aret, Blk.cells, ty, Tryz.results107, ares, toT1, toT, borrow, borrow0, capCell, toTree0]
theorem copied_ok (g : G) (hl : g.es.length ≤ 40) : ACall Tryz.prog 63 [tG g] (tG g) := by
 obtain ⟨n, es⟩ := g
 simp only at hl
 by_cases he : es = []
 ·subst he
  have hN := CloneE_none
  refine ACall.of_body Tryz.func63 rfl (by kernel_rfl) ?_
  simp only [entry, Tryz.ntmps63, tG, eRows]
  refine zU ?_
  refine zR trivial (zc hN trivial) trivial ?_
  simp [Rets, aret, Blk.cells, ty, Tryz.results63, ares, toT1, toT, borrow, borrow0, capCell, toTree0, tG, eRows]
 ·have hC := CloneE_ok es he (by omega)
  refine ACall.of_body Tryz.func63 rfl (by kernel_rfl) ?_
  simp only [entry, Tryz.ntmps63, tG]
  refine zU ?_
  refine zR trivial (zc hC trivial) trivial ?_
  simp [Rets, aret, Blk.cells, ty, Tryz.results63, ares, toT1, toT, borrow, borrow0, capCell, toTree0, tG]
theorem rDefault_ok (g : G) (hl : g.es.length ≤ 40) : ACall Tryz.prog 28 [tG g] (.tup [tR (if joinedE g ≠ 0 then ⟨0, [], []⟩ else ⟨g.n, g.es, halvesL (endsL g.es) g.n.toNat (2 * (endsL g.es).length)⟩), tint (joinedE g)]) := by
 have hJ := rjoined_ok g hl
 have hC := copied_ok g hl
 by_cases hj : joinedE g = 0
 case neg =>
  rw [if_pos hj]
  have hL : ∃ L, (if checkG g ≠ 0 then [] else endsL g.es) = L := ⟨_, rfl⟩
  obtain ⟨L, hL⟩ := hL
  rw [hL] at hJ
  generalize joinedE g = E at *
  obtain ⟨n, es⟩ := g
  refine ACall.of_body Tryz.func28 rfl (by kernel_rfl) ?_
  simp only [entry, Tryz.ntmps28, tG]
  refine zU ?_
  refine zR (zc @hj trivial) (zc hJ trivial) trivial ?_
  simp [Rets, aret, Blk.cells, ty, Tryz.results28, ares, toT1, toT, borrow, borrow0, capCell, toTree0, tint, tR, eRows, llRows]
 have hc : checkG g = 0 := by
  unfold joinedE at hj
  by_cases h : checkG g = 0
  ·exact h
  ·rw [if_pos h] at hj; exact absurd hj h
 have h12 := (checkG_zero.1 hc).1
 have hlen := ends_len hl hc
 rw [if_neg (by omega), hj] at hJ
 rw [if_neg (by omega), hj]
 have hat : ∀ h, h < 2 * (endsL g.es).length → 0 ≤ atL (endsL g.es) h ∧ atL (endsL g.es) h < (g.n.toNat : Nat) := fun h hh => by
  have := atL_range (r := ⟨g.n, g.es, []⟩) hc hh
  have h1 : (⟨g.n, g.es, []⟩ : R).n = g.n := rfl
  have h2 : (⟨g.n, g.es, []⟩ : R).es = g.es := rfl
  rw [h1, h2] at this
  omega
 have hH := halves_ok (endsL g.es) g.n.toNat (by omega) (by omega) hat
 rw [show ((g.n.toNat : Nat) : Int) = g.n by omega] at hH
 clear hat hc hj
 obtain ⟨n, es⟩ := g
 simp only at hH hJ ⊢
 generalize halvesL (endsL es) n.toNat (2 * (endsL es).length) = hs at *
 generalize endsL es = L at *
 refine ACall.of_body Tryz.func28 rfl (by kernel_rfl) ?_
 simp only [entry, Tryz.ntmps28, tG]
 refine zU ?_
 refine zR trivial (zc hJ (zc hC (zc hH trivial))) trivial ?_
 simp [Rets, aret, Blk.cells, ty, Tryz.results28, ares, toT1, toT, borrow, borrow0, capCell, toTree0, tint, tR]
end Go.Proofs.YtfkegnhpihoncaaGreat
