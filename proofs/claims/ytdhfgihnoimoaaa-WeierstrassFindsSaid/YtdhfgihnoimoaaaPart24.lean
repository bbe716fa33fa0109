/- A part of the proof. -/
import Derived.Test.YtdhfgihnoimoaaaPart22
import Derived.Test.YtdhfgihnoimoaaaLayerD
import Derived.Test.YtdhfgihnoimoaaaPart18
import Derived.Test.YtdhfgihnoimoaaaLayerC
import Derived.Test.YtdhfgihnoimoaaaPart10
set_option linter.all false
set_option maxHeartbeats 4000000
set_option maxRecDepth 100000
namespace Go.Proofs.Ytdhfgihnoimoaaa
open Go.Sp
abbrev BS3 := List Int × List Nat × Nat
def stepD (v : Nat) (s : BS3) (x : Int × Int) : BS3 := if s.1.getD x.1.toNat 0 < 0 then (s.1.set x.1.toNat (s.1.getD v 0 + 1), s.2.1 ++ [x.1.toNat], s.2.2 + 1) else s
def bfs1 (es : List E) (v : Nat) (s : BS3) : BS3 := (lnkL es v).foldl (stepD v) s
def cntNeg (o : List Int) : Nat := o.countP fun x => decide (x < 0)
theorem cntNeg_set : ∀ {o : List Int} {u : Nat} {x y : Int}, o[u]? = some y → y < 0 → 0 ≤ x → cntNeg (o.set u x) + 1 = cntNeg o
 | [], u, x, y, h, _, _ => by simp at h
 | a :: o, 0, x, y, h, h1, h2 => by
  simp at h; subst h
  unfold cntNeg
  simp only [List.set_cons_zero, List.countP_cons]
  rw [if_pos (decide_eq_true h1), if_neg (by simpa using h2)]
 | a :: o, u + 1, x, y, h, h1, h2 => by
  have := cntNeg_set (o := o) (u := u) (x := x) (y := y) (by simpa using h) h1 h2
  unfold cntNeg at this ⊢
  simp only [List.set_cons_succ, List.countP_cons]
  omega
theorem getD_set_int (o : List Int) (k : Nat) (x : Int) (v : Nat) (hk : k < o.length) : (o.set k x).getD v 0 = if v = k then x else o.getD v 0 := by
 rw [List.getD_eq_getElem?_getD, List.getElem?_set]
 by_cases e : k = v
 ·subst e; rw [if_pos rfl, if_pos hk, if_pos rfl]; rfl
 ·rw [if_neg e, if_neg (fun h => e h.symm), List.getD_eq_getElem?_getD]
theorem lnk_sym {es : List E} {v : Int} {x : Int × Int} (h : x ∈ lnkL es v) : (v, x.2) ∈ lnkL es x.1 := by
 obtain ⟨e, he, h1, h2, h3⟩ := lnk_mem h
 unfold lnkL
 rw [List.mem_filterMap]
 refine ⟨e, he, ?_⟩
 unfold lnkE
 rcases h3 with ⟨h3, h4⟩ | ⟨h3, h4⟩
 ·rw [if_pos ⟨h2, .inr h4.symm⟩, h1, h4, ← h3]; congr 2; omega
 ·rw [if_pos ⟨h2, .inl h4.symm⟩, h1, h4, ← h3]; congr 2; omega
structure BFq (es : List E) (n q : Nat) (o : List Int) (Q : List Nat) : Prop where
 len : o.length = n
 q0 : o.getD q 0 = 0
 bnd : ∀ x, x < n → -1 ≤ o.getD x 0 ∧ o.getD x 0 + cntNeg o ≤ n - 1
 qm : ∀ a, a ∈ Q → a < n ∧ 0 ≤ o.getD a 0
 srt : Q.Pairwise fun a b => o.getD a 0 ≤ o.getD b 0
 gap : ∀ a b, a ∈ Q → b ∈ Q → o.getD b 0 ≤ o.getD a 0 + 1
 proc : ∀ x, x < n → 0 ≤ o.getD x 0 → x ∉ Q → (∀ a, a ∈ Q → o.getD x 0 ≤ o.getD a 0) ∧ ∀ y, y ∈ lnkL es x → 0 ≤ o.getD y.1.toNat 0 ∧ o.getD y.1.toNat 0 ≤ o.getD x 0 + 1
 par : ∀ x, x < n → x ≠ q → 0 ≤ o.getD x 0 → ∃ y, y ∈ lnkL es x ∧ 0 ≤ o.getD y.1.toNat 0 ∧ o.getD y.1.toNat 0 + 1 = o.getD x 0
structure PBq (es : List E) (n q v : Nat) (l : List (Int × Int)) (o : List Int) (Q : List Nat) : Prop where
 len : o.length = n
 q0 : o.getD q 0 = 0
 bnd : ∀ x, x < n → -1 ≤ o.getD x 0 ∧ o.getD x 0 + cntNeg o ≤ n - 1
 vv : v < n ∧ 0 ≤ o.getD v 0
 qm : ∀ a, a ∈ Q → a < n ∧ o.getD v 0 ≤ o.getD a 0 ∧ o.getD a 0 ≤ o.getD v 0 + 1
 srt : Q.Pairwise fun a b => o.getD a 0 ≤ o.getD b 0
 proc : ∀ x, x < n → x ≠ v → 0 ≤ o.getD x 0 → x ∉ Q → o.getD x 0 ≤ o.getD v 0 ∧ ∀ y, y ∈ lnkL es x → 0 ≤ o.getD y.1.toNat 0 ∧ o.getD y.1.toNat 0 ≤ o.getD x 0 + 1
 par : ∀ x, x < n → x ≠ q → 0 ≤ o.getD x 0 → ∃ y, y ∈ lnkL es x ∧ 0 ≤ o.getD y.1.toNat 0 ∧ o.getD y.1.toNat 0 + 1 = o.getD x 0
 dn : ∀ y, y ∈ l → 0 ≤ o.getD y.1.toNat 0 ∧ o.getD y.1.toNat 0 ≤ o.getD v 0 + 1
section
variable {es : List E} {n q v : Nat}
theorem BFq.pop {o : List Int} {Q : List Nat} (h : BFq es n q o (v :: Q)) : PBq es n q v [] o Q := by
 have hv := h.qm v (by simp)
 have hs := List.pairwise_cons.1 h.srt
 refine ⟨h.len, h.q0, h.bnd, hv, fun a ha => ⟨(h.qm a (by simp [ha])).1, hs.1 a ha, h.gap v a (by simp) (by simp [ha])⟩, hs.2, fun x hx hxv h0 hxQ => ?_, h.par, by simp⟩
 have := h.proc x hx h0 (by simp [hxv, hxQ])
 exact ⟨this.1 v (by simp), this.2⟩
theorem PBq.step {l : List (Int × Int)} {s : BS3} (h : PBq es n q v l s.1 s.2.1) {x : Int × Int} (hx : x ∈ lnkL es v) (hxn : 0 ≤ x.1 ∧ x.1 < n) : PBq es n q v (l ++ [x]) (stepD v s x).1 (stepD v s x).2.1 := by
 obtain ⟨o, Q, p⟩ := s
 obtain ⟨u, k⟩ := x
 simp only at h hxn
 obtain ⟨w, rfl⟩ := Int.eq_ofNat_of_zero_le hxn.1
 have hw : w < n := by omega
 obtain ⟨e, he, _, hne, hab⟩ := lnk_mem hx
 have hwv : w ≠ v := by rintro rfl; simp only at hab; omega
 unfold stepD
 simp only [Int.toNat_natCast]
 split
 ·rename_i hneg
  have hg := fun y => getD_set_int o w (o.getD v 0 + 1) y (by rw [h.len]; exact hw)
  have hv0 := h.vv.2
  have hgv : (o.set w (o.getD v 0 + 1)).getD v 0 = o.getD v 0 := by rw [hg, if_neg (Ne.symm hwv)]
  have hgo : ∀ y, 0 ≤ o.getD y 0 → (o.set w (o.getD v 0 + 1)).getD y 0 = o.getD y 0 := fun y hy => by
   rw [hg, if_neg]; rintro rfl; omega
  have hcn := cntNeg_set (o := o) (u := w) (x := o.getD v 0 + 1) (y := o.getD w 0) (getD_get (by rw [h.len]; exact hw)) hneg (by omega)
  have hqw : q ≠ w := by rintro rfl; have := h.q0; omega
  have hQ0 : ∀ a, a ∈ Q → 0 ≤ o.getD a 0 := fun a ha => by have := h.qm a ha; omega
  show PBq es n q v _ (o.set w (o.getD v 0 + 1)) (Q ++ [w])
  refine ⟨by rw [List.length_set]; exact h.len, by rw [hg, if_neg hqw]; exact h.q0, fun x hx => ?_, ⟨h.vv.1, by rw [hgv]; exact hv0⟩, fun a ha => ?_, ?_, fun x hxn hxv h0 hxQ => ?_, fun x hxn hxq h0 => ?_, fun y hy => ?_⟩
  ·have h1 := h.bnd x hx
   have h2 := h.bnd v h.vv.1
   rw [hg]
   by_cases e : x = w
   ·rw [if_pos e]; omega
   ·rw [if_neg e]; omega
  ·rw [hgv]
   rcases List.mem_append.1 ha with ha | ha
   ·rw [hgo a (hQ0 a ha)]; exact h.qm a ha
   ·rw [List.mem_singleton.1 ha, hg, if_pos rfl]; exact ⟨hw, by omega, Int.le_refl _⟩
  ·rw [List.pairwise_append]
   refine ⟨h.srt.imp_of_mem fun {a b} ha hb hab => by rw [hgo a (hQ0 a ha), hgo b (hQ0 b hb)]; exact hab, by simp, fun a ha b hb => ?_⟩
   rw [List.mem_singleton.1 hb, hgo a (hQ0 a ha), hg w, if_pos rfl]
   exact (h.qm a ha).2.2
  ·have hxw : x ≠ w := fun e => hxQ (by rw [e]; simp)
   rw [hg, if_neg hxw] at h0 ⊢
   rw [hgv]
   obtain ⟨q1, q2⟩ := h.proc x hxn hxv h0 fun hm => hxQ (List.mem_append_left _ hm)
   refine ⟨q1, fun y hy => ?_⟩
   have := q2 y hy
   rw [hgo _ this.1]; exact this
  ·by_cases hxw : x = w
   ·subst hxw
    refine ⟨((v : Nat), k), lnk_sym hx, ?_, ?_⟩
    ·simp only [Int.toNat_natCast]; rw [hgv]; exact hv0
    ·simp only [Int.toNat_natCast]; rw [hgv, hg, if_pos rfl]
   ·rw [hg, if_neg hxw] at h0 ⊢
    obtain ⟨y, y1, y2, y3⟩ := h.par x hxn hxq h0
    exact ⟨y, y1, by rw [hgo _ y2]; exact y2, by rw [hgo _ y2]; exact y3⟩
  ·rw [hgv]
   rcases List.mem_append.1 hy with hy | hy
   ·have := h.dn y hy
    rw [hgo _ this.1]; exact this
   ·rw [List.mem_singleton.1 hy]
    simp only [Int.toNat_natCast]
    rw [hg, if_pos rfl]; omega
 ·rename_i hneg
  refine { h with dn := fun y hy => ?_ }
  rcases List.mem_append.1 hy with hy | hy
  ·exact h.dn y hy
  ·rw [List.mem_singleton.1 hy]
   simp only [Int.toNat_natCast]
   refine ⟨by omega, ?_⟩
   by_cases hm : w ∈ Q
   ·exact (h.qm w hm).2.2
   ·have := (h.proc w hw hwv (by omega) hm).1; omega
theorem PBq.all {s : BS3} (hn : ∀ x, x ∈ lnkL es v → 0 ≤ x.1 ∧ x.1 < n) (h : PBq es n q v [] s.1 s.2.1) : ∀ j, j ≤ (lnkL es v).length → PBq es n q v ((lnkL es v).take j) (((lnkL es v).take j).foldl (stepD v) s).1 (((lnkL es v).take j).foldl (stepD v) s).2.1
 | 0, _ => h
 | j + 1, hj => by
  have hlt : j < (lnkL es v).length := by omega
  have hm := List.getElem_mem hlt
  have ih := PBq.all hn h j (by omega)
  rw [List.take_succ_eq_append_getElem hlt, List.foldl_append]
  exact ih.step hm (hn _ hm)
theorem PBq.done {o : List Int} {Q : List Nat} (h : PBq es n q v (lnkL es v) o Q) : BFq es n q o Q := by
 refine ⟨h.len, h.q0, h.bnd, fun a ha => ⟨(h.qm a ha).1, by have := h.qm a ha; have := h.vv; omega⟩, h.srt, fun a b ha hb => by have := h.qm a ha; have := h.qm b hb; omega, fun x hx h0 hxQ => ?_, h.par⟩
 by_cases e : x = v
 ·subst e; exact ⟨fun a ha => (h.qm a ha).2.1, h.dn⟩
 ·have := h.proc x hx e h0 hxQ
  exact ⟨fun a ha => Int.le_trans this.1 (h.qm a ha).2.1, this.2⟩
theorem stepD_cnt (v : Nat) (s : BS3) (x : Int × Int) (h : 0 ≤ s.1.getD v 0) (hx : x.1.toNat < s.1.length) : 2 * cntNeg (stepD v s x).1 + (stepD v s x).2.1.length ≤ 2 * cntNeg s.1 + s.2.1.length := by
 unfold stepD
 split
 ·rename_i hneg
  have := cntNeg_set (o := s.1) (u := x.1.toNat) (x := s.1.getD v 0 + 1) (getD_get hx) hneg (by omega)
  simp only [List.length_append, List.length_singleton]; omega
 ·exact Nat.le_refl _
theorem PBq.cnt {s : BS3} (hn : ∀ x, x ∈ lnkL es v → 0 ≤ x.1 ∧ x.1 < n) (h : PBq es n q v [] s.1 s.2.1) : ∀ j, j ≤ (lnkL es v).length → 2 * cntNeg (((lnkL es v).take j).foldl (stepD v) s).1 + (((lnkL es v).take j).foldl (stepD v) s).2.1.length ≤ 2 * cntNeg s.1 + s.2.1.length
 | 0, _ => Nat.le_refl _
 | j + 1, hj => by
  have hlt : j < (lnkL es v).length := by omega
  have hm := List.getElem_mem hlt
  have ih := PBq.cnt hn h j (by omega)
  have hp := h.all hn j (by omega)
  rw [List.take_succ_eq_append_getElem hlt, List.foldl_append]
  refine Nat.le_trans (stepD_cnt v _ _ hp.vv.2 (by rw [hp.len]; have := hn _ hm; omega)) ih
theorem foldD_take (v : Nat) (s : BS3) {j : Nat} {x : Int × Int} (h : (lnkL es v)[j]? = some x) : ((lnkL es v).take (j + 1)).foldl (stepD v) s = stepD v (((lnkL es v).take j).foldl (stepD v) s) x := by
 rw [take_snoc h, List.foldl_append]; rfl
theorem foldD_len (v : Nat) : ∀ (l : List (Int × Int)) (s : BS3), (l.foldl (stepD v) s).1.length = s.1.length
 | [], _ => rfl
 | x :: l, s => by
  rw [List.foldl_cons, foldD_len v l]
  unfold stepD
  split
  ·simp only [List.length_set]
  ·rfl
inductive DEnd (es : List E) : BS3 → List Int → Nat → Prop where
 | stop {o : List Int} {p : Nat} : DEnd es (o, [], p) o p
 | go {o B : List Int} {v : Nat} {Q : List Nat} {p pB : Nat} : DEnd es (bfs1 es v (o, Q, p)) B pB → DEnd es (o, v :: Q, p) B pB
theorem dEnd (hn : ∀ (v : Nat) x, x ∈ lnkL es v → 0 ≤ x.1 ∧ x.1 < n) : ∀ (f : Nat) (s : BS3), 2 * cntNeg s.1 + s.2.1.length ≤ f → BFq es n q s.1 s.2.1 → ∃ B pB, DEnd es s B pB ∧ BFq es n q B [] := by
 intro f
 induction f with
 | zero =>
  rintro ⟨o, Q, p⟩ hc h
  simp only at hc h
  cases Q with
  | nil => exact ⟨o, p, .stop, h⟩
  | cons v Q => simp at hc
 | succ f ih =>
  rintro ⟨o, Q, p⟩ hc h
  simp only at hc h
  cases Q with
  | nil => exact ⟨o, p, .stop, h⟩
  | cons v Q =>
   have hp := h.pop
   have hd := PBq.all (s := (o, Q, p)) (hn v) hp _ (Nat.le_refl _)
   have hct := PBq.cnt (s := (o, Q, p)) (hn v) hp _ (Nat.le_refl _)
   rw [List.take_length] at hd hct
   obtain ⟨B, pB, b1, b2⟩ := ih (bfs1 es v (o, Q, p)) (by unfold bfs1; simp only [List.length_cons] at hc; simp only at hct; omega) hd.done
   exact ⟨B, pB, .go b1, b2⟩
end
def initO (n q : Nat) : List Int := (List.replicate n (-1)).set q 0
theorem cntNeg_rep (n : Nat) : cntNeg (List.replicate n (-1)) = n := by
 induction n with
 | zero => rfl
 | succ n ih => unfold cntNeg at ih ⊢; rw [List.replicate_succ, List.countP_cons, ih]; simp
theorem initO_bf {es : List E} {n q : Nat} (hq : q < n) : BFq es n q (initO n q) [q] := by
 have hrl : (List.replicate n (-1) : List Int).length = n := by simp
 have hg : ∀ x, (initO n q).getD x 0 = if x = q then 0 else (List.replicate n (-1)).getD x 0 := fun x => getD_set_int _ q 0 x (by rw [hrl]; exact hq)
 have hr : ∀ x, x < n → (List.replicate n (-1) : List Int).getD x 0 = -1 := fun x hx => by
  rw [List.getD_eq_getElem?_getD, List.getElem?_replicate, if_pos hx]; rfl
 have hc := cntNeg_set (o := List.replicate n (-1)) (u := q) (x := 0) (y := -1) (by rw [List.getElem?_replicate, if_pos hq]) (by decide) (by decide)
 rw [cntNeg_rep] at hc
 have hc' : cntNeg (initO n q) + 1 = n := hc
 have hneg : ∀ x, x < n → 0 ≤ (initO n q).getD x 0 → x = q := fun x hx h0 => by
  refine Classical.byContradiction fun e => ?_
  rw [hg, if_neg e, hr x hx] at h0; omega
 refine ⟨by simp [initO], by rw [hg, if_pos rfl], fun x hx => ?_, fun a ha => ?_, by simp, fun a b ha hb => ?_, fun x hx h0 hxQ => ?_, fun x hx hxq h0 => ?_⟩
 ·rw [hg]
  by_cases e : x = q
  ·rw [if_pos e]; omega
  ·rw [if_neg e, hr x hx]; omega
 ·rw [List.mem_singleton.1 ha, hg, if_pos rfl]; exact ⟨hq, Int.le_refl _⟩
 ·rw [List.mem_singleton.1 ha, List.mem_singleton.1 hb]; omega
 ·exact absurd (by rw [hneg x hx h0]; simp) hxQ
 ·exact absurd (hneg x hx h0) hxq
theorem st0_in (n q : Nat) (es : List E) (d s : List Int) {m : Nat} (hm : 4 ≤ m) : blksIn m [.box [.int .i64 (n : Int), .slice (eRows es) .none], .ro [.int .i64 (n : Int), .slice (eRows es)], .box (iC d), .box (iC s), .roC [.tree (.int .i64 (n : Int)), .tree (.slice (eRows es)), .tree (.int .i64 (q : Int)), .ref 2 1 0 n n, .ref 3 1 0 n n, .tree (.int .i64 0)]] := by
 have hg : blkIn m (.box [.int .i64 (n : Int), .slice (eRows es) .none]) := by intro c hc; simp only [List.mem_cons, List.not_mem_nil, or_false] at hc; rcases hc with rfl | rfl <;> exact True.intro
 exact blksIn_cons hg (blksIn_cons True.intro (blksIn_cons iC_in (blksIn_cons iC_in (blksIn_cons (stX_in hm) (blksIn_nil _)))))
theorem iRows_ziCons (v : Nat) (Q : List Nat) : iRows (zI (v :: Q)) = [.int .i64 (v : Int)] :: iRows (zI Q) := rfl
theorem distances_raw (n q : Nat) (es : List E) (d s : List Int) (h1 : 1 ≤ n) (h12 : n ≤ 12) (hq : q < n) (hd : d.length = n) (hs : s.length = n) (hl : es.length ≤ 40) (hm : ∀ e, e ∈ es → (0 ≤ e.a ∧ e.a < n) ∧ (0 ≤ e.b ∧ e.b < n) ∧ 0 ≤ e.m ∧ e.m ≤ 50) (B : List Int) (pB : Nat) (hB : DEnd es (initO n q, [q], 0) B pB) (hBl : B.length = n) :
  ACallH Try.prog 105 [.box [.int .i64 (n : Int), .slice (eRows es) .none], .ro [.int .i64 (n : Int), .slice (eRows es)], .box (iC d), .box (iC s), .roC [.tree (.int .i64 (n : Int)), .tree (.slice (eRows es)), .tree (.int .i64 (q : Int)), .ref 2 1 0 n n, .ref 3 1 0 n n, .tree (.int .i64 0)]] [.c (.ptr 4 0)] (([.box [.int .i64 (n : Int), .slice (eRows es) .none], .ro [.int .i64 (n : Int), .slice (eRows es)], .box (iC d), .box (iC s), .roC [.tree (.int .i64 (n : Int)), .tree (.slice (eRows es)), .tree (.int .i64 (q : Int)), .ref 2 1 0 n n, .ref 3 1 0 n n, .tree (.int .i64 0)]] ++ [.box (iC B)]) ++ [.box [.ref 5 1 0 n n], .box [.slice [] (.tail 8 pB)], .chain pB 1]) (.c (.ref 5 1 0 n n)) := by
 have hlk := fun H v h4 => links_h (H := H) n q es v h4
 have hI := fun (v : Nat) (hv : v < n) => links1_ok n es v (by omega) (fun e he => by have := hm e he; omega) (by omega)
 have hkb : ∀ (v : Nat) x, x ∈ lnkL es v → 0 ≤ x.1 ∧ x.1 < n := fun v x hx => by
  obtain ⟨e, he, e1, _, e2⟩ := lnk_mem hx
  have := hm e he
  rcases e2 with ⟨_, e2⟩ | ⟨_, e2⟩ <;> (rw [e2]; omega)
 have hqI : (q : Int) < (n : Int) := by omega
 have hRp := Repeat_ok n (by omega) [.box [.int .i64 (n : Int), .slice (eRows es) .none], .ro [.int .i64 (n : Int), .slice (eRows es)], .box (iC d), .box (iC s), .roC [.tree (.int .i64 (n : Int)), .tree (.slice (eRows es)), .tree (.int .i64 (q : Int)), .ref 2 1 0 n n, .ref 3 1 0 n n, .tree (.int .i64 0)]] (fun b hb => st0_in n q es d s (m := 6) (by decide) b hb)
 have hdn : iC d ≠ [] := iC_ne (by intro e; rw [e] at hd; simp at hd; omega)
 have hsn : iC s ≠ [] := iC_ne (by intro e; rw [e] at hs; simp at hs; omega)
 have hne : ∀ {x : List Int}, x.length = n → iC x ≠ [] := fun {x} hx => iC_ne (by intro e; rw [e] at hx; simp at hx; omega)
 have hrl : (List.replicate n (-1) : List Int).length = n := by simp
 have hr0 := iC_set (List.replicate n (-1)) q 0
 have hr0' : (iC (List.replicate n (-1))).set q (.int .i64 0) = iC (initO n q) := hr0
 have hw0 := initO_bf (es := es) hq
 simp only [List.cons_append, List.nil_append] at hRp ⊢
 refine ACallH.of_body Try.func105 rfl (by kernel_rfl) ?_
 simp only [entry, Try.ntmps105, List.length_cons, List.length_nil, Nat.reduceAdd, Nat.reduceSub, List.replicate_succ, List.replicate_zero, List.cons_append, List.nil_append]
 refine zJc trivial (zc @hqI (zc @hr0' (zc @hrl (zc @iC_len (zc @Nat.zero_add trivial))))) trivial (zc hRp trivial) trivial ?_
 refine AWp.weak (Weak.tailB 7 0 1 rfl rfl (by simp)) ?_
 simp only [List.set_cons_succ, List.set_cons_zero, List.length_cons, List.length_nil, List.length_append, Nat.reduceAdd, List.cons_append, List.nil_append]
 refine AWp.loopS (α:=BS3) 56 (fun w=>[(0,.c (.ptr 4 0)),(3,.c (.ptr 6 0)),(4,.c (.ptr 7 0))]) (fun w=>[.box [.int .i64 (n : Int), .slice (eRows es) .none], .ro [.int .i64 (n : Int), .slice (eRows es)], .box (iC d), .box (iC s), .roC [.tree (.int .i64 (n : Int)), .tree (.slice (eRows es)), .tree (.int .i64 (q : Int)), .ref 2 1 0 n n, .ref 3 1 0 n n, .tree (.int .i64 0)], .box (iC w.1), .box [.ref 5 1 0 n n], .box [.slice (iRows (zI w.2.1)) (.tail 8 w.2.2)], .chain w.2.2 1]) (fun w=>DEnd es w B pB ∧ BFq es n q w.1 w.2.1 ∧ 2 * cntNeg w.1 + w.2.1.length ≤ 30) (fun w=>2 * cntNeg w.1 + w.2.1.length) ((initO n q, [q], 0)) (hk:=Weak.headL 9 56 [0, 3, 4] (zV3 @iC_in @bC_inS @stX_in)) (h0:=?_) (round:=fun w hI=>?_)
 ·refine ⟨hB, hw0, ?_⟩
  have := hw0.bnd q hq
  have := hw0.q0
  show 2 * cntNeg (initO n q) + 1 ≤ 30
  omega
 ·obtain ⟨o, Q, p⟩ := w
  obtain ⟨hE, hF, hQb⟩ := hI
  simp only at hE hF hQb ⊢
  cases Q with
  | nil =>
   cases hE
   have e0 : (iRows (zI ([] : List Nat))).length = 0 := rfl
   have e1 : iRows (zI ([] : List Nat)) = [] := rfl
   refine zR (zc @e0 (zc @e1 trivial)) trivial trivial ?_
   simp [RetsH, aretH, ares, noTup, Try.results105]
  | cons v Q =>
   have hP := hF.pop
   have hvn := hP.vv.1
   have hvI : (v : Int) < (n : Int) := by omega
   cases hE with
   | go hE =>
   have hall := PBq.all (s := (o, Q, p)) (hkb v) hP
   have hcn := PBq.cnt (s := (o, Q, p)) (hkb v) hP
   have hIk := hI v hvn
   have hkbv := hkb v
   have el : (0 : Int) < ((Q.length + 1 : Nat) : Int) := by omega
   have hneJ : ∀ l, iC (List.foldl (stepD v) (o, Q, p) l).1 ≠ [] := fun l => hne ((foldD_len v l (o, Q, p)).trans hF.len)
   rw [iRows_ziCons]
   have hQl := hF.len
   repeat' (first|((with_reducible refine AWp.seq (AWp.of_reg (id:=6) (AReg.pre 1 (fun K hK=>?_))));simp only [List.take_succ_cons,List.take_zero])|((with_reducible refine AWp.of_reg (id:=6) (AReg.pre 1 (fun K hK=>?_)));simp only [List.take_succ_cons,List.take_zero])|((first|(refine zT ?_;intro K' hK')|(refine zG ?_ ?_<;>(try refine zH ?_)<;>intro hguard<;>(try exact zX)<;>try intro K' hK'))<;>((try simp +contextual only [go_sem, el, iRows_len, zI_len, Int.toNat_natCast]);(repeat' first|(with_reducible refine hK' _ _ ?_;clear hK' K')|exact zY|with_reducible refine And.intro ?_ ?_|(with_reducible intro hpath;try exact zP)|(refine hK' _ _ ?_;clear hK' K')|fail);try refine zS ?_))|(refine zE ?_;refine hK _ _ ?_;clear hK K)|(refine zN ?_;try refine zS ?_)|refine zA ?_|(refine zB ?_;intro K hK)|(refine zC ?_ ?_<;>(try refine zH ?_)<;>intro hcond<;>try exact zX)|fail)
   simp only [List.drop_succ_cons, List.drop_zero]
   refine AReg.step rfl rfl (step_slice_front (k := 1) (i := 8) (p := p) (rows := [.int .i64 (v : Int)] :: iRows (zI Q)) (l := 1) _ _ _ rfl 3 (by simp only [ty]) (by simp only [ty]) (.inr rfl) rfl (fun r hr => by rcases List.mem_cons.1 hr with rfl | hr; exact rfl; exact iRows_k' hr) rfl (by decide) (by rw [List.length_cons]; omega)) ?_
   simp only [aput, List.set_cons_succ, List.set_cons_zero, Int.toNat_one, List.drop_succ_cons, List.drop_zero]
   refine AReg.rest (fun K hK => ?_)
   repeat' (first|((first|(refine zT ?_;intro K' hK')|(refine zG ?_ ?_<;>(try refine zH ?_)<;>intro hguard<;>(try exact zX)<;>try intro K' hK'))<;>((try simp +contextual only [go_sem, ofT, ofT1, ofTree, List.map_cons, List.map_nil]);(repeat' first|(with_reducible refine hK' _ _ ?_;clear hK' K')|((with_reducible first|refine ⟨_,_,hlk _ _ rfl,?_⟩|refine ⟨_,hlk _ _ rfl,?_⟩);try simp +contextual only [go_sem, ofT, ofT1, ofTree, List.map_cons, List.map_nil])|exact zY|with_reducible refine And.intro ?_ ?_|(with_reducible intro hpath;try exact zP)|(refine hK' _ _ ?_;clear hK' K')|fail);try refine zS ?_))|(refine zE ?_;refine hK _ _ ?_;clear hK K)|(refine zN ?_;try refine zS ?_)|refine zA ?_|(refine zB ?_;intro K hK)|(refine zC ?_ ?_<;>(try refine zH ?_)<;>intro hcond<;>try exact zX)|fail)
   refine AWp.weak (Weak.head (m := 10) (by omega) ((fun t f => [t, f, f, t, t, t, f, f, f, f, f, f, f, f, f, f, f, f, f, f, f, f, f, f, f, f, f, f, f, f, f, f, f, f, f, t, f, f, f, f, f, f, f, f, f, f, f, f, f, f, f, f, f, f, f, f]) true false) (by first | rfl | simp [mask]) (by first | rfl | simp) (by (repeat' (first | exact valsIn_nil _ | refine valsIn_cons ?_ ?_ | refine cellsIn_cons ?_ ?_ | exact cellsIn_nil _ | exact True.intro | (show _ < _; omega) | (intro c hc; cases hc; done) | (intro c hc; simp only [List.mem_cons, List.not_mem_nil, or_false] at hc; subst hc; first | exact True.intro | (show _ < _; omega)) | (intro c hc; simp only [List.mem_cons, List.not_mem_nil, or_false] at hc; rcases hc with rfl | rfl <;> first | exact True.intro | (show _ < _; omega))))) (by (repeat' (first | exact valsIn_nil _ | exact blksIn_nil _ | exact cellsIn_nil _ | refine And.intro ?_ ?_ | refine valsIn_cons ?_ ?_ | refine blksIn_cons ?_ ?_ | refine cellsIn_cons ?_ ?_ | exact True.intro | exact iC_in | exact bC_inS | exact stX_in (by omega) | (show _ < _; omega) | exact cellsIn_map (fun _ => True.intro) | (intro c hc; cases hc; done) | (intro c hc; simp only [List.mem_cons, List.not_mem_nil, or_false] at hc; subst hc; first | exact True.intro | exact iC_in | exact bC_inS | exact stX_in (by omega) | (show _ < _; omega)) | (intro c hc; simp only [List.mem_cons, List.not_mem_nil, or_false] at hc; rcases hc with rfl | rfl <;> first | exact True.intro | exact iC_in | exact bC_inS | exact stX_in (by omega) | (show _ < _; omega)))))) (AWp.rangeFunc (fun j H => H = [.box [.int .i64 (n : Int), .slice (eRows es) .none], .ro [.int .i64 (n : Int), .slice (eRows es)], .box (iC d), .box (iC s), .roC [.tree (.int .i64 (n : Int)), .tree (.slice (eRows es)), .tree (.int .i64 (q : Int)), .ref 2 1 0 n n, .ref 3 1 0 n n, .tree (.int .i64 0)], .box (iC (((lnkL es v).take j).foldl (stepD v) (o, Q, p)).1), .box [.ref 5 1 0 n n], .box [.slice (iRows (zI (((lnkL es v).take j).foldl (stepD v) (o, Q, p)).2.1)) (.tail 8 (((lnkL es v).take j).foldl (stepD v) (o, Q, p)).2.2)], .chain (((lnkL es v).take j).foldl (stepD v) (o, Q, p)).2.2 1, .box [.int .i64 (v : Int)]] ∧ (True)) (fun _ _ => False) 10 rfl (hIk) (itemsK_ps rfl) (by omega) (by (repeat' (first | exact valsIn_nil _ | refine valsIn_cons ?_ ?_ | refine cellsIn_cons ?_ ?_ | exact cellsIn_nil _ | exact True.intro | (show _ < _; omega) | (intro c hc; cases hc; done) | (intro c hc; simp only [List.mem_cons, List.not_mem_nil, or_false] at hc; subst hc; first | exact True.intro | (show _ < _; omega)) | (intro c hc; simp only [List.mem_cons, List.not_mem_nil, or_false] at hc; rcases hc with rfl | rfl <;> first | exact True.intro | (show _ < _; omega))))) (by rintro _ _ ⟨rfl, -⟩; simp [hdn, hsn, hneJ]) (fun _ _ h => h.elim) ?_ (fun l j ts H hts hI => ?_) (fun H hI => ?_) (fun e H h => h.elim))
   ·exact ⟨rfl, trivial⟩
   ·obtain ⟨rfl, -⟩ := hI
    obtain ⟨x, hx, rfl⟩ := itemsK_inv hts
    have hj : j < (lnkL es v).length := (List.getElem?_eq_some_iff.1 hx).1
    have hxb := hkbv x (List.mem_of_getElem? hx)
    have hnx := foldD_take v (o, Q, p) hx
    have hPj := hall j (by omega)
    have hcj := hcn j (by omega)
    rw [List.length_cons] at hQb
    have hlj := hPj.len
    have hbj := hPj.bnd v hvn
    have hcn0 := hPj.vv.2
    have hqm := hPj.qm
    generalize ((lnkL es v).take j).foldl (stepD v) (o, Q, p) = sj at *
    generalize hnj : ((lnkL es v).take (j + 1)).foldl (stepD v) (o, Q, p) = sj1 at *
    obtain ⟨oj, Qj, pj⟩ := sj
    obtain ⟨u, m⟩ := x
    obtain ⟨u1, u2⟩ := hxb
    obtain ⟨z, rfl⟩ := Int.eq_ofNat_of_zero_le u1
    have hzI : (z : Int) < (n : Int) := u2
    unfold stepD at hnx
    simp only [Int.toNat_natCast] at hnx hlj hbj hcj hcn0 ⊢
    have g1 := iC_get (getD_get (d := oj) (i := z) (by omega))
    have g2 := iC_get (getD_get (d := oj) (i := v) (by omega))
    have hst := iC_set oj z (oj.getD v 0 + 1)
    generalize oj.getD z 0 = oz at *
    generalize oj.getD v 0 = ov at *
    simp only [mask, setPs, List.zip_cons_cons, List.zip_nil_right, List.zip_nil_left, List.foldl_cons, List.foldl_nil, List.set_cons_succ, List.set_cons_zero, ofT, ofT1, ofTree, List.map_cons, List.map_nil, ofT, ofT1, toT, toT1, toTree0, tint, tbool, tpair, tG, tpairs, tints, tbools]
    by_cases hneg : oz < 0
    ·rw [if_pos hneg] at hnx
     have hzs := zI_snoc Qj z
     have hzl := zI_len Qj
     refine zRc (zc @hzI (zc @hvI (zc @g1 (zc @g2 (zc @hst (zc @hneg (zc @iC_len (zc @hlj (zc @iRows_len (zc @iRows_snoc (zc @hzs (zc @hzl (zc @Nat.zero_add trivial))))))))))))) trivial @iRows_k' ?_
     refine ⟨⟨_, _⟩, Weak.head2 (m := 10) (by decide) ((fun t f => [f, f, f, f, f, f, f, f, f, f, f, f, f, f, f, f, f, f, f, f, f, f, f, f, f, f, f, f, f, f, f, f, f, f, f, f, f, f, f, f, f, f, f, f, f, f, f, f, f, f, f, f, f, f, f, f]) true false) rfl rfl (zV3 @iC_in @bC_inS @stX_in), ?_, ?_⟩
     ·rw [hnj, hnx]; rfl
     ·trivial
    ·rw [if_neg hneg] at hnx
     refine zR (zc @hzI (zc @g1 (zc @hneg (zc @iC_len (zc @hlj (zc @Nat.zero_add trivial)))))) trivial trivial ?_
     refine ⟨⟨_, _⟩, Weak.head2 (m := 10) (by decide) ((fun t f => [f, f, f, f, f, f, f, f, f, f, f, f, f, f, f, f, f, f, f, f, f, f, f, f, f, f, f, f, f, f, f, f, f, f, f, f, f, f, f, f, f, f, f, f, f, f, f, f, f, f, f, f, f, f, f, f]) true false) rfl rfl (zV3 @iC_in @bC_inS @stX_in), ?_, ?_⟩
     ·rw [hnj, hnx]; rfl
     ·trivial
   ·obtain ⟨rfl, -⟩ := hI
    rw [itemsK_len, List.take_length]
    have hd1 := hall _ (Nat.le_refl _)
    have hc1 := hcn _ (Nat.le_refl _)
    rw [List.take_length] at hd1 hc1
    simp only [mask]
    refine zR trivial trivial trivial ?_
    refine ⟨bfs1 es v (o, Q, p),Weak.headN 9 56 [0, 3, 4] (zV3 @iC_in @bC_inS @stX_in),?_,?_⟩
    ·refine ⟨hE, hd1.done, ?_⟩
     rw [List.length_cons] at hQb
     show 2 * cntNeg (bfs1 es v (o, Q, p)).1 + (bfs1 es v (o, Q, p)).2.1.length ≤ 30
     have : 2 * cntNeg (bfs1 es v (o, Q, p)).1 + (bfs1 es v (o, Q, p)).2.1.length ≤ 2 * cntNeg o + Q.length := hc1
     omega
    ·show 2 * cntNeg (bfs1 es v (o, Q, p)).1 + (bfs1 es v (o, Q, p)).2.1.length < 2 * cntNeg o + (v :: Q).length
     rw [List.length_cons]
     have : 2 * cntNeg (bfs1 es v (o, Q, p)).1 + (bfs1 es v (o, Q, p)).2.1.length ≤ 2 * cntNeg o + Q.length := hc1
     omega
set_option maxHeartbeats 1000000
def borG (M : Nat → Nat → Int) (v : Nat) : Nat → List Int → List Int
 | 0, d => d
 | k + 1, d => if k = v then borG M v k d else ((borG M v k d).set k ((borG M v k d).getD k 0 - M k v)).set v (((borG M v k d).set k ((borG M v k d).getD k 0 - M k v)).getD v 0 + M k v)
theorem borG_len (M : Nat → Nat → Int) (v : Nat) (d : List Int) : ∀ k, (borG M v k d).length = d.length
 | 0 => rfl
 | k + 1 => by
  unfold borG
  split
  ·exact borG_len M v d k
  ·rw [List.length_set, List.length_set, borG_len M v d k]
theorem borG_get {M : Nat → Nat → Int} {v : Nat} {d : List Int} (hv : v < d.length) (hd : M v v = 0) (w : Nat) : ∀ k, k ≤ d.length →
  (borG M v k d).getD w 0 = if w = v then d.getD v 0 + sumR (fun u => M u v) k else if w < k then d.getD w 0 - M w v else d.getD w 0
 | 0, _ => by
  simp only [borG, sumR]
  split
  ·rename_i h; rw [h]; omega
  ·rw [if_neg (by omega)]
 | k + 1, hk => by
  have ih := fun w => borG_get hv hd w k (by omega)
  have hl := borG_len M v d k
  unfold borG
  by_cases hkv : k = v
  ·rw [if_pos hkv, ih]
   simp only [sumR]
   subst hkv
   rw [hd]
   by_cases hw : w = k
   ·rw [if_pos hw, if_pos hw]; omega
   ·rw [if_neg hw, if_neg hw]
    by_cases h2 : w < k
    ·rw [if_pos h2, if_pos (by omega)]
    ·rw [if_neg h2, if_neg (by omega)]
  ·rw [if_neg hkv, getD_set_int _ _ _ _ (by rw [List.length_set, hl]; exact hv), getD_set_int _ _ _ _ (by rw [hl]; omega), getD_set_int _ _ _ _ (by rw [hl]; omega), if_neg (show ¬ v = k by omega)]
   rw [ih v, ih k, ih w, if_pos rfl, if_neg hkv, if_neg (Nat.lt_irrefl k)]
   simp only [sumR]
   by_cases hw : w = v
   ·rw [if_pos hw, if_pos hw]; omega
   ·rw [if_neg hw, if_neg hw, if_neg hw]
    by_cases h2 : w = k
    ·rw [if_pos h2, if_pos (by omega), h2]
    ·rw [if_neg h2]
     by_cases h3 : w < k
     ·rw [if_pos h3, if_pos (by omega)]
     ·rw [if_neg h3, if_neg (by omega)]
def oweL (d : List Int) : Option Nat := d.findIdx? fun x => decide (x < 0)
theorem oweL_some {d : List Int} {v : Nat} (h : oweL d = some v) : v < d.length ∧ d.getD v 0 < 0 := by
 unfold oweL at h
 obtain ⟨h1, h2, _⟩ := List.findIdx?_eq_some_iff_getElem.1 h
 refine ⟨h1, ?_⟩
 rw [List.getD_eq_getElem?_getD, List.getElem?_eq_getElem h1]
 simpa using h2
theorem oweL_none {d : List Int} (h : oweL d = none) (v : Nat) : 0 ≤ d.getD v 0 := by
 unfold oweL at h
 rw [List.findIdx?_eq_none_iff] at h
 rw [List.getD_eq_getElem?_getD]
 cases hx : d[v]? with
 | none => exact Int.le_refl _
 | some x => have := h x (List.mem_of_getElem? hx); simpa using this
def winsL (M : Nat → Nat → Int) (n : Nat) : Nat → List Int → List Bool → Bool
 | 0, _, _ => false
 | k + 1, d, b => match oweL d with
  | none => true
  | some v => if b.all id = true then false else winsL M n k (borG M v n d) (b.set v true)
section
variable {n : Nat} {M : Nat → Nat → Int}
structure GI (n : Nat) (M : Nat → Nat → Int) (d0 : Nat → Int) (U C : Int) (s : Nat → Int) (k : Nat) (d : List Int) (b : List Bool) : Prop where
 dl : d.length = n
 bl : b.length = n
 s0 : ∀ v, 0 ≤ s v
 led : ∀ v, v < n → d.getD v 0 = d0 v - lap n M (fun u => - s u) v
 mark : ∀ v, v < n → b.getD v false = decide (0 < s v)
 sum : sumR s n = k
 top : ∀ v, v < n → d.getD v 0 ≤ U
 least : ∀ t : Nat → Int, (∀ u, 0 ≤ t u) → (∀ v, v < n → 0 ≤ d0 v - lap n M (fun u => - t u) v) → ∀ v, v < n → s v ≤ t v
 few : (k : Int) ≤ C + 1
theorem lap_owe (s : Nat → Int) (v : Nat) : lap n M (fun u => - s u) v = - sumR (fun u => M v u * (s v - s u)) n := lap_neg s v
theorem GI.begin {d : List Int} {U C : Int} (hd : d.length = n) (hC : 0 ≤ C) (hU : ∀ v, v < n → d.getD v 0 ≤ U) : GI n M (fun v => d.getD v 0) U C (fun _ => 0) 0 d (List.replicate n false) := by
 have h0 : ∀ v, lap n M (fun _ => -(0 : Int)) v = 0 := fun v => by
  rw [lap_owe, sumR_zero fun u _ => by simp]; rfl
 refine ⟨hd, by simp, fun _ => Int.le_refl _, fun v hv => by rw [h0]; omega, fun v hv => ?_, by rw [sumR_zero fun _ _ => rfl]; rfl, hU, fun t ht _ v _ => ht v, by omega⟩
 rw [List.getD_eq_getElem?_getD, List.getElem?_replicate, if_pos hv]; rfl
theorem GI.low (hM : Mult n M) {d0 : Nat → Int} {U C : Int} {s : Nat → Int} {k : Nat} {d : List Int} {b : List Bool} (h : GI n M d0 U C s k d b) (v : Nat) (hv : v < n) : sumR d0 n - n * U + U ≤ d.getD v 0 := by
 have e1 : sumR (fun v => d.getD v 0) n = sumR d0 n := by
  rw [sumR_congr h.led, sumR_sub, lap_sum hM]; omega
 have e2 := sumR_one_le (f := fun v => U - d.getD v 0) (n := n) (fun i hi => by have := h.top i hi; omega) hv
 rw [sumR_sub, sumR_const, e1] at e2
 omega
theorem GI.bound (hM : Mult n M) {d0 : Nat → Int} {U C N : Int} {s : Nat → Int} {k : Nat} {d : List Int} {b : List Bool} (h : GI n M d0 U C s k d b) (hU : 0 ≤ U) (hN : 0 ≤ N) (hdN : ∀ v, v < n → - N ≤ d0 v) (hC : n * (n * (n * (U + N))) ≤ C) {q : Nat} (hq : q < n) (hs : s q = 0) : (k : Int) ≤ C := by
 have hp : sumR (fun v => if v = q then 0 else max 0 (d.getD v 0 + N)) n ≤ n * (U + N) := by
  rw [← sumR_const]
  refine sumR_le fun v hv => ?_
  have := h.top v hv
  split <;> omega
 have hg := gap_all hM (D := fun v => d.getD v 0 + N) (s := s) hq (fun v hv _ => by
  have h1 := h.led v hv
  rw [lap_neg] at h1
  have h2 := hdN v hv
  omega) hp
 rw [← h.sum]
 have : sumR s n ≤ n * (n * (n * (U + N))) := by
  rw [← sumR_const]
  exact sumR_le fun v hv => by have := hg v hv; omega
 omega
theorem GI.step (hM : Mult n M) {d0 : Nat → Int} {U C N : Int} {s : Nat → Int} {k : Nat} {d : List Int} {b : List Bool} (h : GI n M d0 U C s k d b) (hU : 0 ≤ U) (hN : 0 ≤ N) (hdN : ∀ v, v < n → - N ≤ d0 v) (hC : n * (n * (n * (U + N))) ≤ C)
  (hval : ∀ v, v < n → sumR (M v) n ≤ U) {q : Nat} (hq : q < n) (hs : s q = 0) {v : Nat} (hv : v < n) (hneg : d.getD v 0 < 0) : GI n M d0 U C (fun u => s u + if u = v then 1 else 0) (k + 1) (borG M v n d) (b.set v true) := by
 have hk := h.bound hM hU hN hdN hC hq hs
 have hget := fun w => borG_get (M := M) (v := v) (d := d) (by rw [h.dl]; exact hv) (hM.dia v) w n (by rw [h.dl]; exact Nat.le_refl _)
 have hlap : ∀ w, w < n → lap n M (fun u => -(s u + if u = v then 1 else 0)) w = lap n M (fun u => - s u) w - (if w = v then sumR (M v) n else - M w v) := fun w hw => by
  rw [lap_owe, lap_owe]
  have e : ∀ u, u < n → M w u * (s w + (if w = v then 1 else 0) - (s u + if u = v then 1 else 0)) = M w u * (s w - s u) + (if w = v then M w u else 0) - (if u = v then M w v else 0) := fun u _ => by
   by_cases h1 : w = v
   ·rw [if_pos h1, if_pos h1]
    by_cases h2 : u = v
    ·rw [if_pos h2, if_pos h2, h2, show s w + 1 - (s v + 1) = s w - s v by omega, h1]; omega
    ·rw [if_neg h2, if_neg h2, show s w + 1 - (s u + 0) = (s w - s u) + 1 by omega, Int.mul_add]; omega
   ·rw [if_neg h1, if_neg h1]
    by_cases h2 : u = v
    ·rw [if_pos h2, if_pos h2, h2, show s w + 0 - (s v + 1) = (s w - s v) + -1 by omega, Int.mul_add]; omega
    ·rw [if_neg h2, if_neg h2, show s w + 0 - (s u + 0) = (s w - s u) by omega]; omega
  have e2 : sumR (fun u => if w = v then M w u else 0) n = if w = v then sumR (M v) n else 0 := by
   by_cases h1 : w = v
   ·rw [if_pos h1, h1]; exact sumR_congr fun u _ => if_pos rfl
   ·simp only [if_neg h1]; exact sumR_zero fun _ _ => rfl
  rw [sumR_congr e, sumR_sub, sumR_add, sumR_delta _ v hv, e2]
  by_cases h1 : w = v
  ·rw [if_pos h1, if_pos h1, h1, hM.dia]; omega
  ·rw [if_neg h1, if_neg h1]; omega
 have hsym : sumR (fun u => M u v) n = sumR (M v) n := sumR_congr fun u _ => hM.sym u v
 refine ⟨by rw [borG_len]; exact h.dl, by rw [List.length_set]; exact h.bl, fun u => by have := h.s0 u; split <;> omega, fun w hw => ?_, fun w hw => ?_, ?_, fun w hw => ?_, fun t ht hte w hw => ?_, by omega⟩
 ·rw [hget, hlap w hw, hsym]
  have h1 := h.led w hw
  by_cases e : w = v
  ·rw [if_pos e, if_pos e, ← e]; omega
  ·rw [if_neg e, if_neg e, if_pos hw]; omega
 ·have h1 := h.mark w hw
  rw [List.getD_eq_getElem?_getD, List.getElem?_set, h.bl]
  by_cases e : v = w
  ·rw [if_pos e, if_pos hv]
   have := h.s0 w
   simp only [Option.getD_some, e, if_true]
   rw [eq_comm, decide_eq_true_eq]; omega
  ·rw [if_neg e, ← List.getD_eq_getElem?_getD, h1]
   simp only [if_neg (show ¬ w = v by omega), Int.add_zero]
 ·rw [sumR_add, sumR_delta _ _ hv, h.sum]; omega
 ·rw [hget]
  have h1 := h.top w hw
  have h2 := hM.pos w v
  by_cases e : w = v
  ·rw [if_pos e, hsym]; have := hval v hv; omega
  ·rw [if_neg e, if_pos hw]; omega
 ·have h1 := h.least t ht hte w hw
  by_cases e : w = v
  ·simp only [if_pos e]
   by_cases hlt : s w < t w
   ·omega
   ·exfalso
    have h2 := h.led w hw
    have h3 := hte w hw
    rw [lap_owe] at h2 h3
    have h4 : sumR (fun u => M w u * (t w - t u)) n ≤ sumR (fun u => M w u * (s w - s u)) n := sumR_le fun u hu => by
     have := h.least t ht hte u hu
     exact Int.mul_le_mul_of_nonneg_left (by omega) (hM.pos w u)
    rw [← e] at hneg
    omega
  ·simp only [if_neg e]; omega
theorem all_marked {b : List Bool} (h : b.all id = true) {v : Nat} (hv : v < b.length) : b.getD v false = true := by
 rw [List.getD_eq_getElem?_getD, List.getElem?_eq_getElem hv]
 exact (List.all_eq_true.1 h) _ (List.getElem_mem hv)
theorem some_unmarked {b : List Bool} (h : ¬ b.all id = true) : ∃ v, v < b.length ∧ b.getD v false = false := by
 rw [List.all_eq_true] at h
 simp only [id, Classical.not_forall] at h
 obtain ⟨x, hx, hne⟩ := h
 obtain ⟨i, hi, rfl⟩ := List.mem_iff_getElem.1 hx
 exact ⟨i, hi, by rw [List.getD_eq_getElem?_getD, List.getElem?_eq_getElem hi]; simpa using hne⟩
theorem GI.lost (h0 : 0 < n) {d0 : Nat → Int} {U C : Int} {s : Nat → Int} {k : Nat} {d : List Int} {b : List Bool} (h : GI n M d0 U C s k d b) (hb : b.all id = true) : ¬ win n M d0 := by
 rintro ⟨s1, hs1⟩
 obtain ⟨v0, hv0, hmx⟩ := exists_max s1 h0
 have := h.least (fun u => if u < n then s1 v0 - s1 u else 0) (fun u => by
  split
  ·rename_i hu; have := hmx u hu; omega
  ·omega) (fun v hv => by
  have h1 := hs1 v hv
  have : lap n M (fun u => -(if u < n then s1 v0 - s1 u else 0)) v = lap n M s1 v := by
   unfold lap
   exact sumR_congr fun u hu => by simp only [if_pos hv, if_pos hu]; congr 1; omega
  rw [this]; exact h1) v0 hv0
 have h2 := h.mark v0 hv0
 rw [all_marked hb (by rw [h.bl]; exact hv0)] at h2
 have h3 := of_decide_eq_true h2.symm
 simp only [if_pos hv0] at this
 omega
theorem winsL_go (hM : Mult n M) (h0 : 0 < n) {d0 : Nat → Int} {U C N : Int} (hU : 0 ≤ U) (hN : 0 ≤ N) (hdN : ∀ v, v < n → - N ≤ d0 v) (hC : n * (n * (n * (U + N))) ≤ C) (hval : ∀ v, v < n → sumR (M v) n ≤ U) :
  ∀ (f : Nat) (s : Nat → Int) (k : Nat) (d : List Int) (b : List Bool), GI n M d0 U C s k d b → C + 1 < (f : Int) + k → (winsL M n f d b = true ↔ win n M d0)
 | 0, s, k, d, b, h, hf => by have := h.few; omega
 | f + 1, s, k, d, b, h, hf => by
  unfold winsL
  cases ho : oweL d with
  | none =>
   simp only [true_iff]
   exact ⟨fun u => - s u, fun v hv => by rw [← h.led v hv]; exact oweL_none ho v⟩
  | some v =>
   obtain ⟨h1, h2⟩ := oweL_some ho
   rw [h.dl] at h1
   simp only
   by_cases hb : b.all id = true
   ·rw [if_pos hb]
    exact iff_of_false (by simp) (h.lost h0 hb)
   ·rw [if_neg hb]
    obtain ⟨q, q1, q2⟩ := some_unmarked hb
    rw [h.bl] at q1
    have hs : s q = 0 := by
     have := h.mark q q1
     rw [q2] at this
     have h3 := of_decide_eq_false this.symm
     have := h.s0 q
     omega
    exact winsL_go hM h0 hU hN hdN hC hval f _ (k + 1) _ _ (h.step hM hU hN hdN hC hval q1 hs h1 h2) (by omega)
theorem winsL_ok (hM : Mult n M) (h0 : 0 < n) {d : List Int} (hd : d.length = n) {U N : Int} (hU : 0 ≤ U) (hN : 0 ≤ N) (hdU : ∀ v, v < n → d.getD v 0 ≤ U) (hdN : ∀ v, v < n → - N ≤ d.getD v 0) (hval : ∀ v, v < n → sumR (M v) n ≤ U) {f : Nat} (hf : n * (n * (n * (U + N))) + 1 < (f : Int)) :
  winsL M n f d (List.replicate n false) = true ↔ win n M (fun v => d.getD v 0) :=
 winsL_go hM h0 hU hN hdN (Int.le_refl _) hval f _ 0 _ _ (GI.begin hd (Int.mul_nonneg (by omega) (Int.mul_nonneg (by omega) (Int.mul_nonneg (by omega) (by omega)))) hdU) (by omega)
end
end Go.Proofs.Ytdhfgihnoimoaaa
