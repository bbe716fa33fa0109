/- Our layer over the machine: values of a running function as plain data, and the rules by which they step; part 4. -/
import Derived.Test.YtgklecfiflhjmaaLayerC
import Derived.Test.YtgklecfiflhjmaaLayerB
import Derived.Shelf.SlSortCmp.Whole1
import Derived.Shelf.SlSortCmp.NoneTotal
set_option linter.all false
namespace Go.Sp
open Go.RowKit
section
variable {P : Program} {h : Nat} {Q : Exit → St → Prop} {all : Array Oper} {tm : List AVal} {H : List Blk} {o : Oper} {ρ : Operand → AVal}
theorem ADr.run {rd : Option Nat} {k : Nat} (n : Nat) (hc : ((List.range n).all fun i => cutAt all (k + i)) = true) (hn : k + n ≤ all.size)
  (hv : ∀ K : List AVal → List Blk → Prop, (∀ tm' H', ADr P rd h all (k + n) Q tm' H' → K tm' H') → vcOps P all ((all.toList.drop k).take n) tm H K) : ADr P rd h all k Q tm H := by
 obtain ⟨tm', H', h1, h2⟩ := vcOps_sound (rd := rd) (hv (fun tm' H' => ADr P rd h all (k + n) Q tm' H') (fun _ _ h => h))
 have key : ∀ (l : List Oper) (k0 : Nat) (tm : List AVal) (H : List Blk) (tm' : List AVal) (H' : List Blk), Run P rd all l tm H tm' H' → ADr P rd h all (k + n) Q tm' H' → (∀ j, j < l.length → all[k0 + j]? = l[j]?) → k0 + l.length = k + n → (∀ j, j < l.length → cutAt all (k0 + j) = true) → ADr P rd h all k0 Q tm H := by
  clear h1 h2 hv
  intro l k0 tm H tm' H' hr h2
  induction hr generalizing k0 with
  | nil tm H => intro _ e _; simp at e; subst e; exact h2
  | exec hg hs hr ih =>
   rename_i o rest _ _ _ _ _ rv
   intro q1 q2 q3
   refine ADr.one (by simpa using q3 0 (by simp)) (o := o) (by simpa using q1 0 (by simp)) (.inl ⟨hg, hs.n⟩) ?_
   rintro r H1 ⟨rfl, rfl⟩
   exact ih (k0 + 1) h2 (fun j hj => by have := q1 (j + 1) (by simp; omega); simpa [Nat.add_assoc, Nat.add_comm 1 j] using this) (by simp at q2; omega) (fun j hj => by have := q3 (j + 1) (by simp; omega); rwa [show k0 + (j + 1) = k0 + 1 + j by omega] at this)
  | skip hg hr ih =>
   rename_i o rest _ _ _ _
   intro q1 q2 q3
   refine ADr.one (R := fun r H1 => r = .tup [] ∧ H1 = _) (by simpa using q3 0 (by simp)) (o := o) (by simpa using q1 0 (by simp)) (.inr ⟨hg, rfl, rfl⟩) ?_
   rintro r H1 ⟨rfl, rfl⟩
   exact ih (k0 + 1) h2 (fun j hj => by have := q1 (j + 1) (by simp; omega); simpa [Nat.add_assoc, Nat.add_comm 1 j] using this) (by simp at q2; omega) (fun j hj => by have := q3 (j + 1) (by simp; omega); rwa [show k0 + (j + 1) = k0 + 1 + j by omega] at this)
 have hl : ((all.toList.drop k).take n).length = n := by simp; omega
 refine key _ k tm H tm' H' h1 h2 (fun j hj => ?_) (by rw [hl]) (fun j hj => ?_)
 ·rw [hl] at hj
  rw [List.getElem?_take_of_lt hj, List.getElem?_drop]; simp
 ·rw [hl] at hj
  exact List.all_eq_true.1 hc j (List.mem_range.2 hj)
def setVals (tm : List AVal) : List (Nat × AVal) → List AVal
 | [] => tm
 | (t, v) :: l => setVals (tm.set t v) l
theorem setVals_len : ∀ (l : List (Nat × AVal)) (tm : List AVal), (setVals tm l).length = tm.length
 | [], tm => rfl
 | (t, v) :: l, tm => by rw [setVals, setVals_len l]; simp
theorem setVals_ne {t : Nat} : ∀ (l : List (Nat × AVal)) (tm : List AVal), (∀ x, x ∈ l → x.1 ≠ t) → (setVals tm l)[t]? = tm[t]?
 | [], tm, _ => rfl
 | (s, v) :: l, tm, hh => by
  rw [setVals, setVals_ne l _ (fun x hx => hh x (by simp [hx]))]
  rw [List.getElem?_set_ne (hh (s, v) (by simp))]
theorem drop_at {k : Nat} {rest : List Oper} (he : all.toList.drop k = o :: rest) : all[k]? = some o := by
 rw [← Array.getElem?_toList]
 have := congrArg (·[0]?) he
 simpa using this
end
attribute [go_sem] setVals
end Go.Sp
namespace Go.Sp
open Go.RowKit
def borrow2 (H : List Blk) : ACell → Option Tree
 | .fn f [.ptr id 0] => match H[id]? with
  | some (.box [.ref j k off len cap]) => (borrow0 H (.ref j k off len cap)).map fun t => .fn f [.rptr [t]]
  | _ => none
 | c => borrow H c
theorem borrow2_rel {ι : List Nat} {σ : Sig} {w : World} {H : List Blk} (hH : HRel ι σ w H) {c : ACell} {t : Tree} {v : Value} (h : CRel ι σ w H c v) (ht : borrow2 H c = some t) : TRel (Open σ) w t v := by
 unfold borrow2 at ht
 split at ht
 ·rename_i f id
  split at ht
  ·rename_i j k off len cap hb
   cases hr : borrow0 H (.ref j k off len cap) with
   | none => simp [hr] at ht
   | some x =>
    simp [hr] at ht; subst ht
    obtain ⟨vs, rfl, hl, hv⟩ := h
    match vs, hl with
    | [u], _ =>
     obtain ⟨b, hi, rfl⟩ := hv 0 _ u rfl rfl
     obtain ⟨_, hcs⟩ := hH.2 id _ b hb hi
     obtain ⟨q1, _, v0, q3, q4⟩ := hcs 0 _ rfl
     have hx := borrow0_rel hH q4 hr
     have hp : TRel (Open σ) w (.rptr [x]) (.pointer (some ⟨b, 0, none⟩)) := .rptr b 0 [x] (fun _ => v0) (fun j t hj => by
      cases j with
      | zero => simp at hj; subst hj; exact ⟨by simp [Open, q1], by simpa using q3⟩
      | succ j => simp at hj) (fun j t hj => by
      cases j with
      | zero => simp at hj; subst hj; exact hx
      | succ j => simp at hj)
     exact .fn f [.rptr [x]] (fun _ => .pointer (some ⟨b, 0, none⟩)) (fun j t hj => by
      cases j with
      | zero => simp at hj; subst hj; exact hp
      | succ j => simp at hj)
  ·cases ht
 ·exact borrow_rel hH h ht
theorem ACallX.h2 {P : Program} {f : FuncId} {ts : List TVal} {r : TVal} (h : ACallX P f [] (ts.map ofT) r) {H : List Blk} {args : List AVal} (ha : args.mapM (toT (borrow2 H)) = some ts) : ACallH P f H args H (ofT r) := by
 refine ⟨h.enters, fun ι σ w vs hH hl hv => ?_⟩
 obtain ⟨e1, e2⟩ := mapM_get ha
 let σ0 : Sig := fun b o => match σ b o with | .foreign => .foreign | _ => .stable
 have hst : ∀ b o, Open σ b o → Stab σ0 b o := fun b o h => by
  show σ0 b o = .stable
  simp only [σ0]; split
  ·rename_i hx; exact absurd hx h
  ·rfl
 have hno : ∀ b o id, σ0 b o ≠ .mine id := fun b o id => by simp only [σ0]; split <;> simp
 refine (h.runs [] σ0 w vs ⟨rfl, fun id blk b h1 _ => by simp at h1⟩ (fun b o id hx => absurd hx (hno b o id)) (by simp; omega) (fun j x u h1 h2 => ?_)).mono ?_
 ·simp only [List.getElem?_map] at h1
  cases hts : ts[j]? with
  | none => simp [hts] at h1
  | some t =>
   simp [hts] at h1; subst h1
   have hlt : j < args.length := by have := (List.getElem?_eq_some_iff.1 hts).1; omega
   have hc := List.getElem?_eq_getElem hlt
   exact ofT_rel ((toT_rel (fun c t v h3 h4 => borrow2_rel hH h3 h4) (hv j _ u hc h2) (e2 j _ t hc hts)).mono fun b o u h5 h6 => ⟨hst b o h5, h6⟩)
 ·rintro e w' ⟨v, _, σ1, rfl, hr, _, hE, _⟩
  have hb : Below w.heap.size w w' := ⟨hE.os, hE.tape, hE.output, hE.size, fun b hb => (hE.obj b hb (fun o id => hno b o id)).1⟩
  obtain ⟨σ', hs, hn, hH', M, hE'⟩ := after_below hH hb hE.drawn
  exact ⟨v, ι, σ', rfl, ofT_rel (hr.fresh fun b o hb => hn b o hb), hH', M, hE'⟩
end Go.Sp
namespace Go.Sp
open Go.RowKit
section
variable {P : Program} {rd : Option Nat} {h : Nat} {Q : Exit → St → Prop} {all : Array Oper} {tm : List AVal} {H : List Blk}
def segOkS (all : Array Oper) (k m : Nat) (ps : List Nat) : Bool :=
 decide (m ≤ all.size) && ps.all (fun p => decide (k ≤ p) && decide (p < m)) && all.toList.zipIdx.all fun (x, i) => !(decide (k ≤ i) && decide (i < m)) ||
  (ps.contains i || x.dst.isSome) &&
  all.toList.zipIdx.all fun (y, j) => (!decide (m ≤ j) || bef all j i) && (!(decide (k ≤ j) && decide (j < m)) ||
   ((decide (j = i) || !(x.dst.toList.any fun t => y.dst == some t)) &&
    (!(x.dst.toList.any fun t => (readsOf all y).contains t) || (decide (i < j) && bef all j i && (!ps.contains i || ps.contains j))) &&
    (!(ps.contains i && ps.contains j && decide (i < j)) || bef all j i)))
structure SegOkS (all : Array Oper) (k m : Nat) (ps : List Nat) : Prop where
 ms : m ≤ all.size
 pin : ∀ p, p ∈ ps → k ≤ p ∧ p < m
 dst : ∀ (i : Nat) x, all[i]? = some x → k ≤ i → i < m → ¬ i ∈ ps → ∃ t, x.dst = some t
 cut : ∀ (i j : Nat) x y, all[i]? = some x → all[j]? = some y → k ≤ i → i < m → m ≤ j → bef all j i = true
 ne : ∀ (i j : Nat) x y t, all[i]? = some x → all[j]? = some y → k ≤ i → i < m → k ≤ j → j < m → i ≠ j → x.dst = some t → y.dst ≠ some t
 rd : ∀ (i j : Nat) x y t, all[i]? = some x → all[j]? = some y → k ≤ i → i < m → k ≤ j → j < m → x.dst = some t → t ∈ readsOf all y → i < j ∧ bef all j i = true ∧ (i ∈ ps → j ∈ ps)
 ord : ∀ (i j : Nat) x y, all[i]? = some x → all[j]? = some y → i ∈ ps → j ∈ ps → i < j → bef all j i = true
theorem segOkS_spec {k m : Nat} {ps : List Nat} (hs : segOkS all k m ps = true) : SegOkS all k m ps := by
 unfold segOkS at hs
 simp only [Bool.and_eq_true, decide_eq_true_eq] at hs
 obtain ⟨⟨h3, h2⟩, h4⟩ := hs
 have hpin : ∀ p, p ∈ ps → k ≤ p ∧ p < m := fun p hp => by
  have := List.all_eq_true.1 h2 p hp
  simpa using this
 have mem : ∀ (k : Nat) z, all[k]? = some z → (z, k) ∈ all.toList.zipIdx := fun k z hz => by
  rw [List.mem_iff_getElem?]
  refine ⟨k, ?_⟩
  rw [List.getElem?_zipIdx]
  simp [hz]
 have row : ∀ (i : Nat) x, all[i]? = some x → k ≤ i → i < m → _ := fun i x hx ha hb => by
  have := List.all_eq_true.1 h4 (x, i) (mem i x hx)
  simp only [ha, hb, decide_true, Bool.and_true, Bool.not_true, Bool.false_or, Bool.and_eq_true] at this
  exact this
 have cell : ∀ (i j : Nat) x y, all[i]? = some x → all[j]? = some y → k ≤ i → i < m → _ := fun i j x y hx hy ha hb => by
  have := List.all_eq_true.1 (row i x hx ha hb).2 (y, j) (mem j y hy)
  simp only [Bool.and_eq_true] at this
  exact this
 have inn : ∀ (i j : Nat) x y, all[i]? = some x → all[j]? = some y → k ≤ i → i < m → k ≤ j → j < m → _ := fun i j x y hx hy ha hb hc hd => by
  have := (cell i j x y hx hy ha hb).2
  simp only [hc, hd, decide_true, Bool.and_true, Bool.not_true, Bool.false_or, Bool.and_eq_true] at this
  exact this
 refine ⟨h3, hpin, fun i x hx ha hb hne => ?_, fun i j x y hx hy ha hb hj => ?_, fun i j x y t hx hy ha hb hc hd hne hxt hyt => ?_, fun i j x y t hx hy ha hb hc hd hxt hyt => ?_, fun i j x y hx hy hi hj hij => ?_⟩
 ·have := (row i x hx ha hb).1
  rw [Bool.or_eq_true] at this
  rcases this with h5 | h5
  ·exact absurd (List.contains_iff_mem.1 h5) hne
  ·exact Option.isSome_iff_exists.1 h5
 ·have := (cell i j x y hx hy ha hb).1
  simpa [hj] using this
 ·have h5 := (inn i j x y hx hy ha hb hc hd).1.1
  rw [Bool.or_eq_true] at h5
  rcases h5 with h5 | h5
  ·exact hne (by simpa using h5 : j = i).symm
  ·rw [hxt, hyt] at h5; simp at h5
 ·have h5 := (inn i j x y hx hy ha hb hc hd).1.2
  rw [Bool.or_eq_true] at h5
  rcases h5 with h5 | h5
  ·rw [hxt] at h5
   simp only [Option.toList_some, List.any_cons, List.any_nil, Bool.or_false, Bool.not_eq_true'] at h5
   rw [← Bool.not_eq_true] at h5
   exact absurd (List.contains_iff_mem.2 hyt) h5
  ·simp only [Bool.and_eq_true, decide_eq_true_eq, Bool.or_eq_true, Bool.not_eq_true'] at h5
   refine ⟨h5.1.1, h5.1.2, fun hi => ?_⟩
   rcases h5.2 with h6 | h6
   ·rw [← Bool.not_eq_true] at h6
    exact absurd (List.contains_iff_mem.2 hi) h6
   ·exact List.contains_iff_mem.1 h6
 ·obtain ⟨ha, hb⟩ := hpin i hi
  obtain ⟨hc, hd⟩ := hpin j hj
  have h5 := (inn i j x y hx hy ha hb hc hd).2
  rw [Bool.or_eq_true] at h5
  rcases h5 with h5 | h5
  ·have e1 : ps.contains i = true := List.contains_iff_mem.2 hi
   have e2 : ps.contains j = true := List.contains_iff_mem.2 hj
   rw [e1, e2] at h5
   simp [hij] at h5
  ·exact h5
def SegRun (P : Program) (rd : Option Nat) (h : Nat) (all : Array Oper) (k m : Nat) (ps0 : List Nat) (Q : Exit → St → Prop) (tmA : List AVal) : List Nat → List AVal → List Blk → Prop
 | [], tmS, H => ADr P rd h all m Q tmS H
 | p :: ps, tmS, H => ∃ op R, all[p]? = some op ∧ OpN P rd all tmS H op R ∧
   ∀ r H', R r H' → (∀ (i : Nat) x, k ≤ i → i < m → ¬ i ∈ ps0 → all[i]? = some x → QuietAt P rd all tmA H' x) ∧ SegRun P rd h all k m ps0 Q tmA ps (aput tmS op.dst r) H'
theorem ADr.segS {k m : Nat} {ps : List Nat} (hs : segOkS all k m ps = true) (hasc : ps.Pairwise (· < ·)) {tmA : List AVal} (hl : tmA.length = tm.length)
  (hA : ∀ t, (∀ i, k ≤ i → i < m → ¬ i ∈ ps → dstOf all i ≠ some t) → tmA[t]? = tm[t]?)
  (hq : ∀ (i : Nat) x, k ≤ i → i < m → ¬ i ∈ ps → all[i]? = some x → QuietAt P rd all tmA H x)
  (hR : SegRun P rd h all k m ps Q tmA ps tmA H) (hkm : k ≤ m) : ADr P rd h all k Q tm H := by
 have S := segOkS_spec hs
 have hdi : ∀ (i : Nat) x, all[i]? = some x → dstOf all i = x.dst := fun i x hx => by simp [dstOf, hx]
 suffices key : ∀ s (X : List Nat) (rest : List Nat) (tmS : List AVal) (HS : List Blk), Sched all X s → Down all X → (∀ i, i < all.size → i ∈ X ∨ i ∈ s) → (∀ j, j ∈ X → j < m) → (∀ j, j < k → j ∈ X) →
   (∀ p, p ∈ ps → (p ∈ rest ↔ ¬ p ∈ X)) → (∀ p, p ∈ rest → p ∈ ps) → rest.Pairwise (· < ·) → tmS.length = tm.length →
   (∀ t, (∀ p, p ∈ ps → dstOf all p ≠ some t) → tmS[t]? = tmA[t]?) → (∀ t p, p ∈ rest → dstOf all p = some t → tmS[t]? = tmA[t]?) → SegRun P rd h all k m ps Q tmA rest tmS HS →
   (∀ (i : Nat) x, k ≤ i → i < m → ¬ i ∈ ps → all[i]? = some x → QuietAt P rd all tmA HS x) →
   ∀ N ι0 σ0 w0 H0 ι σ a w, SRel ι σ ⟨mixT (wrote all k X) tm tmS, HS⟩ a w → RdOK rd σ w → MarksOK N a.defers σ w → Ext σ0 w0 σ w → Mono (ι0.take h) σ0 w0 (H0.take h) ι σ w HS → wpOpsIn (Fr rd) 9 P all (APost N h ι0 σ0 w0 H0 Q) s a w by
  refine ⟨fun s X hX hs' hD hcov N ι0 σ0 w0 H0 ι σ a w h1 h2 h3 h4 h5 => ?_⟩
  have e : mixT (wrote all k X) tm tmA = tm := by
   apply List.ext_getElem?
   intro t
   by_cases ht : t < tm.length
   ·rw [mixT_get ht, if_neg (fun hw => by
     obtain ⟨i, q1, q2, _⟩ := wrote_iff.1 hw
     have := (hX i).1 q1; omega), List.getD_eq_getElem?_getD, List.getElem?_eq_getElem ht]; rfl
   ·rw [mixT_none ht]; exact (List.getElem?_eq_none (Nat.le_of_not_lt ht)).symm
  exact key s X ps tmA H hs' hD hcov (fun j hj => Nat.lt_of_lt_of_le ((hX j).1 hj) hkm) (fun j hj => (hX j).2 hj) (fun p hp => ⟨fun _ hx => by have := (hX p).1 hx; have := (S.pin p hp).1; omega, fun _ => hp⟩) (fun p hp => hp) hasc hl (fun t _ => rfl) (fun t p _ _ => rfl) hR hq
   N ι0 σ0 w0 H0 ι σ a w (by rw [e]; exact h1) h2 h3 h4 h5
 have fin : ∀ s (X : List Nat) (tmS : List AVal) (HS : List Blk), (∀ j, j ∈ X ↔ j < m) → Sched all X s → Down all X → (∀ i, i < all.size → i ∈ X ∨ i ∈ s) → tmS.length = tm.length → (∀ t, (∀ p, p ∈ ps → dstOf all p ≠ some t) → tmS[t]? = tmA[t]?) →
   ADr P rd h all m Q tmS HS → ∀ N ι0 σ0 w0 H0 ι σ a w, SRel ι σ ⟨mixT (wrote all k X) tm tmS, HS⟩ a w → RdOK rd σ w → MarksOK N a.defers σ w → Ext σ0 w0 σ w → Mono (ι0.take h) σ0 w0 (H0.take h) ι σ w HS → wpOpsIn (Fr rd) 9 P all (APost N h ι0 σ0 w0 H0 Q) s a w := by
  intro s X tmS HS hX hs' hD hcov hlS hoff hK N ι0 σ0 w0 H0 ι σ a w h1 h2 h3 h4 h5
  have e : mixT (wrote all k X) tm tmS = tmS := by
   apply List.ext_getElem?
   intro t
   by_cases ht : t < tm.length
   ·rw [mixT_get ht]
    have ht' : t < tmS.length := by rw [hlS]; exact ht
    by_cases hw : wrote all k X t = true
    ·rw [if_pos hw, List.getD_eq_getElem?_getD, List.getElem?_eq_getElem ht']; rfl
    ·rw [if_neg hw]
     have hn : ∀ i, k ≤ i → i < m → dstOf all i ≠ some t := fun i q3 q4 q5 => hw (wrote_iff.2 ⟨i, (hX i).2 q4, q3, q5⟩)
     rw [hoff t (fun p hp => hn p (S.pin p hp).1 (S.pin p hp).2), hA t (fun i q3 q4 _ => hn i q3 q4), List.getD_eq_getElem?_getD, List.getElem?_eq_getElem ht]; rfl
   ·rw [mixT_none ht]; exact (List.getElem?_eq_none (by rw [hlS]; exact Nat.le_of_not_lt ht)).symm
  rw [e] at h1
  exact hK.out s X hX hs' hD hcov N ι0 σ0 w0 H0 ι σ a w h1 h2 h3 h4 h5
 intro s
 induction s with
 | nil =>
  intro X rest tmS HS hs' hD hcov hm hk hrest hrs hra hlS hoff hoff2 hrun hq' N ι0 σ0 w0 H0 ι σ a w h1 h2 h3 h4 h5
  have hall : ∀ i, i < all.size → i ∈ X := fun i hi => by rcases hcov i hi with h | h; exact h; cases h
  have hX : ∀ j, j ∈ X ↔ j < m := fun j => ⟨hm j, fun hj => hall j (by have := S.ms; omega)⟩
  have hnil : rest = [] := by
   cases rest with
   | nil => rfl
   | cons p rest => exact absurd ((hX p).2 (S.pin p (hrs p (by simp))).2) ((hrest p (hrs p (by simp))).1 (by simp))
  subst hnil
  exact fin [] X tmS HS hX hs' hD hcov hlS hoff hrun N ι0 σ0 w0 H0 ι σ a w h1 h2 h3 h4 h5
 | cons i s ih =>
  intro X rest tmS HS hs' hD hcov hm hk hrest hrs hra hlS hoff hoff2 hrun hq' N ι0 σ0 w0 H0 ι σ a w h1 h2 h3 h4 h5
  by_cases hfull : ∀ j, k ≤ j → j < m → j ∈ X
  ·have hX : ∀ j, j ∈ X ↔ j < m := fun j => ⟨hm j, fun hj => by
    rcases Nat.lt_or_ge j k with h7 | h7
    ·exact hk j h7
    ·exact hfull j h7 hj⟩
   have hnil : rest = [] := by
    cases rest with
    | nil => rfl
    | cons p rest => exact absurd ((hX p).2 (S.pin p (hrs p (by simp))).2) ((hrest p (hrs p (by simp))).1 (by simp))
   subst hnil
   exact fin (i :: s) X tmS HS hX hs' hD hcov hlS hoff hrun N ι0 σ0 w0 H0 ι σ a w h1 h2 h3 h4 h5
  ·cases hs' with
   | cons ho hi hd hs'' =>
   rename_i o
   have hin := (Array.getElem?_eq_some_iff.1 ho).1
   have hki : k ≤ i := by
    rcases Nat.lt_or_ge i k with h7 | h7
    ·exact absurd (hk i h7) hi
    ·exact h7
   have him : i < m := by
    rcases Nat.lt_or_ge i m with h7 | h7
    ·exact h7
    ·exfalso
     refine hfull fun j q1 q2 => ?_
     have hjl : j < all.size := by have := S.ms; omega
     exact bef_in (S.cut j i _ o (Array.getElem?_eq_getElem hjl) ho q1 q2 h7) ho hD hd
   have hm' : ∀ j, j ∈ i :: X → j < m := fun j hj => by
    rcases List.mem_cons.1 hj with rfl | hj
    ·exact him
    ·exact hm j hj
   have hk' : ∀ j, j < k → j ∈ i :: X := fun j hj => List.mem_cons_of_mem _ (hk j hj)
   have rdEq : ∀ t, t ∈ readsOf all o → (mixT (wrote all k X) tm tmS)[t]? = tmS[t]? := by
    intro t ht
    by_cases htl : t < tm.length
    ·rw [mixT_get htl]
     by_cases hw : wrote all k X t = true
     ·rw [if_pos hw, List.getD_eq_getElem?_getD, List.getElem?_eq_getElem (by rw [hlS]; exact htl)]; rfl
     ·rw [if_neg hw]
      have hn : ∀ j, k ≤ j → j < m → dstOf all j ≠ some t := fun j q1 q2 q4 => hw (wrote_iff.2 ⟨j, by
       have hjl : j < all.size := by have := S.ms; omega
       have hoj : all[j]? = some all[j] := Array.getElem?_eq_getElem hjl
       obtain ⟨r1, r2, r3⟩ := S.rd j i _ o t hoj ho q1 q2 hki him (by rw [← hdi j _ hoj]; exact q4) ht
       exact bef_in r2 ho hD hd, q1, q4⟩)
      rw [hoff t (fun p hp => hn p (S.pin p hp).1 (S.pin p hp).2), hA t (fun j q1 q2 _ => hn j q1 q2), List.getD_eq_getElem?_getD, List.getElem?_eq_getElem htl]; rfl
    ·rw [mixT_none htl]; exact (List.getElem?_eq_none (by rw [hlS]; exact Nat.le_of_not_lt htl)).symm
   have evEq : ∀ x, x ∈ o.op.operands → aeval (mixT (wrote all k X) tm tmS) x = aeval tmS x := fun x hx =>
    aeval_congr fun t ht => rdEq t (by
     simp only [readsOf, List.mem_append]
     left
     exact List.mem_flatMap.2 ⟨x, by simpa using hx, ht⟩)
   have gEq : gwant all (mixT (wrote all k X) tm tmS) o = gwant all tmS o :=
    gwant_congr fun t ht => rdEq t (by simp only [readsOf, List.mem_append]; right; exact ht)
   have hwr : ∀ t, wrote all k (i :: X) t = (wrote all k X t || (o.dst == some t)) := fun t => by
    unfold wrote
    rw [List.any_cons, Bool.or_comm]
    simp only [hki, decide_true, Bool.true_and, hdi i o ho]
   unfold wpOpsIn
   simp only [ho]
   by_cases hip : i ∈ ps
   ·-- the next loud one
    have hir : i ∈ rest := (hrest i hip).2 hi
    cases rest with
    | nil => cases hir
    | cons p rest =>
    have hpi : p = i := by
     rcases List.mem_cons.1 hir with e | hir2
     ·exact e.symm
     ·exfalso
      have hlt : p < i := (List.pairwise_cons.1 hra).1 i hir2
      have hpp := hrs p (by simp)
      have hpX := (hrest p hpp).1 (by simp)
      have hpl : p < all.size := by have := (S.pin p hpp).2; have := S.ms; omega
      exact hpX (bef_in (S.ord p i _ o (Array.getElem?_eq_getElem hpl) ho hpp hip hlt) ho hD hd)
    subst hpi
    obtain ⟨op, R, hop, hp, hnext⟩ := hrun
    rw [hop] at ho
    obtain rfl : op = o := by simpa using ho
    have hdo : ∀ t, op.dst = some t → ∀ q, q ∈ rest → dstOf all q ≠ some t := fun t ht q hq e => by
     have hqs := hrs q (by simp [hq])
     have hql : q < all.size := by have := (S.pin q hqs).2; have := S.ms; omega
     have hne : p ≠ q := by have := (List.pairwise_cons.1 hra).1 q hq; omega
     exact S.ne p q op _ t hop (Array.getElem?_eq_getElem hql) hki him (S.pin q hqs).1 (S.pin q hqs).2 hne ht (by rw [← hdi q _ (Array.getElem?_eq_getElem hql)]; exact e)
    have fin2 : ∀ r, aput (mixT (wrote all k X) tm tmS) op.dst r = mixT (wrote all k (p :: X)) tm (aput tmS op.dst r) := fun r =>
     mix_put hwr (fun t ht hlt => by rw [ht]; exact aput_eq (by rw [hlS]; exact hlt)) (fun t ht _ => aput_ne ht)
    have go : ∀ r H', R r H' → ∀ a' w' ι' σ', TmpsRel ι' σ' w' H' (mixT (wrote all k (p :: X)) tm (aput tmS op.dst r)) a'.tmps → HRel ι' σ' w' H' → RdOK rd σ' w' → MarksOK N a'.defers σ' w' → Ext σ0 w0 σ' w' → Mono (ι0.take h) σ0 w0 (H0.take h) ι' σ' w' H' →
      wpOpsIn (Fr rd) 9 P all (APost N h ι0 σ0 w0 H0 Q) s a' w' := fun r H' hr a' w' ι' σ' t1 t2 t3 t4 t5 t6 => by
     obtain ⟨n1, n2⟩ := hnext r H' hr
     refine ih (p :: X) rest _ H' hs'' (down_cons hD hop hd) (cov_cons hcov) hm' hk' (fun q hq => ?_) (fun q hq => hrs q (by simp [hq])) (List.pairwise_cons.1 hra).2 (by rw [aput_length]; exact hlS) (fun t ht => ?_) (fun t q hq hqt => ?_) n2 n1 N ι0 σ0 w0 H0 ι' σ' a' w' ⟨t1, t2⟩ t3 t4 t5 t6
     ·have := hrest q hq
      by_cases e : q = p
      ·subst e
       constructor
       ·intro hq2; exact absurd ((List.pairwise_cons.1 hra).1 q hq2) (by omega)
       ·intro hx; exact absurd (by simp) hx
      ·simp only [List.mem_cons, e, false_or] at this ⊢
       exact this
     ·rw [aput_ne (by rw [← hdi p op hop]; exact ht p hip)]; exact hoff t ht
     ·have hne : op.dst ≠ some t := fun e => hdo t e q hq hqt
      rw [aput_ne hne]; exact hoff2 t q (by simp [hq]) hqt
    rcases hp with ⟨hg, hp⟩ | ⟨hg, hR⟩
    ·rw [if_pos (gwant_spec h1.tmps (gEq.trans hg))]
     refine hp ι σ a w (fun x hx => by rw [← evEq x hx]; exact eval_rel h1.tmps x) h1.heap h2 _ _ fun rv H' v w' ι' σ' hr q1 q2 q3 q4 => ?_
     exact go rv H' hr _ w' ι' σ' (by rw [← fin2]; exact tmps_put (h1.tmps.mono q3) q1) q2 (h2.ext q4) (by rw [Act.put_defers]; exact h3.ext q4) (h4.trans q4) (h5.take2 (q3.take h))
    ·rw [if_neg (by rw [gwant_spec h1.tmps (gEq.trans hg)]; simp)]
     refine ⟨fun _ _ => trivial, ?_⟩
     exact go _ HS hR _ w ι σ (by rw [← fin2]; exact tmps_put h1.tmps undef_rel) h1.heap h2 (by rw [Act.put_defers]; exact h3) h4 h5
   ·obtain ⟨d, hdt⟩ := S.dst i o ho hki him hip
    have hqt := hq' i o hki him hip ho
    have rdA : ∀ t, t ∈ readsOf all o → tmS[t]? = tmA[t]? := fun t ht => hoff t (fun p hp e => by
     have hpl : p < all.size := by have := (S.pin p hp).2; have := S.ms; omega
     have hop : all[p]? = some all[p] := Array.getElem?_eq_getElem hpl
     exact hip ((S.rd p i _ o t hop ho (S.pin p hp).1 (S.pin p hp).2 hki him (by rw [← hdi p _ hop]; exact e) ht).2.2 hp))
    have evA : ∀ x, x ∈ o.op.operands → aeval tmS x = aeval tmA x := fun x hx => aeval_congr fun t ht => rdA t (by
     simp only [readsOf, List.mem_append]
     left
     exact List.mem_flatMap.2 ⟨x, by simpa using hx, ht⟩)
    have gA : gwant all tmS o = gwant all tmA o := gwant_congr fun t ht => rdA t (by simp only [readsOf, List.mem_append]; right; exact ht)
    have hSd : ∀ t, o.dst = some t → t < tm.length → tmS[t]? = some (tmA.getD d (.c .any)) := fun t ht hlt => by
     rw [hdt] at ht
     cases ht
     have e : tmS[d]? = tmA[d]? := hoff d (fun p hp e => by
      have hpl : p < all.size := by have := (S.pin p hp).2; have := S.ms; omega
      have hop : all[p]? = some all[p] := Array.getElem?_eq_getElem hpl
      exact S.ne i p o _ d ho hop hki him (S.pin p hp).1 (S.pin p hp).2 (fun e2 => hip (e2 ▸ hp)) hdt (by rw [← hdi p _ hop]; exact e))
     rw [e, List.getD_eq_getElem?_getD, List.getElem?_eq_getElem (by rw [hl]; exact hlt)]; rfl
    have fin2 : aput (mixT (wrote all k X) tm tmS) o.dst (tmA.getD d (.c .any)) = mixT (wrote all k (i :: X)) tm tmS := mix_put hwr hSd (fun _ _ _ => rfl)
    have hrest' : ∀ p, p ∈ ps → (p ∈ rest ↔ ¬ p ∈ i :: X) := fun p hp => by
     have := hrest p hp
     have hne : p ≠ i := fun e => hip (e ▸ hp)
     simp only [List.mem_cons, hne, false_or]
     exact this
    rcases hqt with ⟨hg, hp⟩ | ⟨hg, hR⟩
    ·rw [if_pos (gwant_spec h1.tmps (gEq.trans (gA.trans hg)))]
     refine hp d hdt ι σ a w (fun x hx => by rw [← evA x hx, ← evEq x hx]; exact eval_rel h1.tmps x) h1.heap h2 _ _ fun v w' ι' σ' q1 q2 q3 q4 => ?_
     refine ih (i :: X) rest tmS HS hs'' (down_cons hD ho hd) (cov_cons hcov) hm' hk' hrest' hrs hra hlS hoff hoff2 hrun hq' N ι0 σ0 w0 H0 ι' σ' _ _ ⟨?_, q2⟩ (h2.ext q4) (by rw [Act.put_defers]; exact h3.ext q4) (h4.trans q4) (h5.take2 (q3.take h))
     rw [← fin2]
     exact tmps_put (h1.tmps.mono q3) q1
    ·rw [if_neg (by rw [gwant_spec h1.tmps (gEq.trans (gA.trans hg))]; simp)]
     refine ⟨fun _ _ => trivial, ?_⟩
     refine ih (i :: X) rest tmS HS hs'' (down_cons hD ho hd) (cov_cons hcov) hm' hk' hrest' hrs hra hlS hoff hoff2 hrun hq' N ι0 σ0 w0 H0 ι σ _ _ ⟨?_, h1.heap⟩ h2 (by rw [Act.put_defers]; exact h3) h4 h5
     rw [← fin2, hR d hdt]
     exact tmps_put h1.tmps undef_rel
end
end Go.Sp
namespace Go.Sp
open Go.RowKit
section
variable {P : Program} {rd : Option Nat} {h : Nat} {Q : Exit → St → Prop} {all : Array Oper} {tm : List AVal} {H : List Blk} {o : Oper} {ρ : Operand → AVal}
theorem step_cut_vec (t : TypeId) (x : Operand) (hi : Operand) (ho : o.op = .slice t x none (some hi) none) {e : TypeId} (hE : tElem P t = some (none, e)) (hk : tSize P e = some 1) {j len cap : Nat} (hx : ρ x = .c (.vec j len cap))
  {m : Nat} {kk : IntKind} (hh : ρ hi = .c (.int kk (m : Int))) (h2 : m ≤ len) (hlen : len ≤ cap) : AStep P rd o ρ H (.c (.vec j m cap)) H := by
 refine AStep.value (by simp [ho]) fun ι σ a w hx' hH => ?_
 have vx := hx' x (by simp [Op.operands, ho])
 rw [hx] at vx
 obtain ⟨b, hb, ev⟩ := vx
 have hu := tElem_slice hE
 have hel : P.elem t = e := elem_of hE
 have hu' : P.underlying t = some (.slice (P.elem t)) := by rw [hel]; exact hu
 have hvh := hx' hi (by simp [Op.operands, ho])
 rw [hh] at hvh
 have evh : a.eval hi = .int kk (m : Int) := hvh
 obtain ⟨ad, ev1, ev2⟩ : ∃ ad, a.eval x = .slice ad len cap ∧ (ad = some ⟨b, 0, none⟩ ∨ (len = 0 ∧ cap = 0 ∧ ad = none)) := by
  rcases ev with ev | ⟨e1, e2, ev⟩
  ·exact ⟨_, ev, .inl rfl⟩
  ·exact ⟨none, by rw [ev, e1, e2], .inr ⟨e1, e2, rfl⟩⟩
 have hbd := run_bounds (P := P) (w := w) true len cap (lo := none) (hi := some (a.eval hi)) (mx := none) (l := 0) (h := m) (m := cap)
  (.inl ⟨rfl, rfl⟩) (.inr ⟨kk, by rw [evh]⟩) (.inl ⟨rfl, rfl⟩) (by omega) (by omega) (by omega) (Int.le_refl _)
 have hs : (Instr.sliceAt t (a.eval x) none (some (a.eval hi)) none).run P w = .ok (sliced ad 0 m cap 1) w := by
  rw [ev1, run_sliceAt_slice w t _ _ _ _ hu', run_slice_any w t _ _ _ hu', hbd, hel]
  simp only [Result.andThen_ok, run_tSize hk, Int.toNat_natCast, Int.toNat_zero]
 have hv : sliced ad 0 m cap 1 = .slice ad m cap := by
  unfold sliced
  split
  ·rfl
  ·have hadd : (⟨b, 0, none⟩ : Addr).add 0 = ⟨b, 0, none⟩ := by unfold Addr.add; split <;> simp_all
   rcases ev2 with rfl | ⟨e1, e2, rfl⟩
   ·simp [hadd]
   ·simp
 rw [hv] at hs
 refine ⟨.slice ad m cap, by simp only [execOp, ho, Option.map_none, Option.map_some, Sem.run_bind, hs, Result.andThen_ok, Sem.run_pure], b, hb, ?_⟩
 rcases ev2 with rfl | ⟨e1, e2, rfl⟩
 ·exact .inl rfl
 ·exact .inr ⟨by omega, e2, by rw [show m = 0 by omega, e2]⟩
open Classical in
theorem step_rest_vec (t : TypeId) (x : Operand) (lo : Operand) (ho : o.op = .slice t x (some lo) none none) {e : TypeId} (hE : tElem P t = some (none, e)) (hk : tSize P e = some 1) {j len cap : Nat} (hx : ρ x = .c (.vec j len cap))
  {m : Nat} {kk : IntKind} (hl : ρ lo = .c (.int kk (m : Int))) (h1 : m < len) (hlen : len ≤ cap) : AStep P rd o ρ H (.c (.ref j 1 m (len - m) (cap - m))) H := by
 refine AStep.bridge fun ι σ a w hv hH => ?_
 have vx := hv x (by simp [Op.operands, ho])
 rw [hx] at vx
 obtain ⟨b, hb, ev⟩ := vx
 have hne : lo ≠ x := fun e => by rw [e, hx] at hl; cases hl
 refine ⟨fun q => if q = x then .c (.ref j 1 0 len cap) else ρ q, .c (.ref j 1 m (len - m) (cap - m)), fun q hq => ?_, ?_, fun _ _ _ _ _ h => h⟩
 ·dsimp only
  by_cases e1 : q = x
  ·subst e1
   rw [if_pos rfl]
   rcases ev with ev | ⟨e2, _, _⟩
   ·exact ⟨b, hb, cap, Nat.le_refl _, ev⟩
   ·omega
  ·rw [if_neg e1]; exact hv q hq
 ·have := step_slice_ref (P := P) (rd := rd) (o := o) (ρ := fun q => if q = x then .c (.ref j 1 0 len cap) else ρ q) (H := H) t x (some lo) none ho hE hk (j := j) (off := 0) (len := len) (cap := cap) (by simp) (l := m) (h := len)
   (by simp [bnd, hne, hl]) rfl (by omega) hlen hlen (.inr (by omega))
  rwa [Nat.zero_add] at this
theorem AWp.boxWeak {c : Code} (j : Nat) {cs : List ACell} (cs' : List ACell) (hj : H[j]? = some (.box cs)) (hc : ∀ (p : Nat) c', cs'[p]? = some c' → cs[p]? = some c' ∨ (c' = .any ∧ p < cs.length)) (hw : AWp P rd h c Q ⟨tm, H.set j (.box cs')⟩) : AWp P rd h c Q ⟨tm, H⟩ := by
 refine ⟨fun N ι σ a w h1 h2 h3 h4 => ?_⟩
 have hil : j < H.length := (List.getElem?_eq_some_iff.1 hj).1
 have M : Mono ι σ w H ι σ w (H.set j (.box cs')) := by
  refine ⟨fun b o u h h' => ⟨h, h'⟩, fun _ _ h => h, fun id tip k0 hc => ?_⟩
  have hne : id ≠ j := by rintro rfl; rw [hj] at hc; cases hc
  exact ⟨tip, k0, by rw [List.getElem?_set_ne (Ne.symm hne)]; exact hc, MarkUp.refl _ _ _, .inr ⟨rfl, rfl, fun b o u h h' => ⟨h, ⟨u, h'⟩, fun h3 => h3⟩⟩⟩
 have hr : SRel ι σ ⟨tm, H.set j (.box cs')⟩ a w := by
  refine ⟨h1.tmps.mono M, by simpa using h1.heap.1, fun id blk b q1 q2 => ?_⟩
  by_cases e : j = id
  ·subst e
   rw [List.getElem?_set_self hil] at q1
   cases q1
   obtain ⟨ha, hcs⟩ := h1.heap.2 j _ b hj q2
   refine ⟨ha, fun i c0 hp => ?_⟩
   rcases hc i c0 hp with h5 | ⟨rfl, h5⟩
   ·obtain ⟨s1, s2, v, s3, s4⟩ := hcs i c0 h5
    exact ⟨s1, s2, v, s3, M.cell s4⟩
   ·obtain ⟨s1, s2, v, s3, _⟩ := hcs i _ (List.getElem?_eq_getElem h5)
    exact ⟨s1, s2, v, s3, trivial⟩
  ·rw [List.getElem?_set_ne e] at q1
   exact BlkRel.same M (h1.heap.2 id blk b q1 q2)
 refine wpIn_mono (hw.out N ι σ a w hr h2 h3 h4) ?_
 rintro e a' w' ⟨ι', σ', st', q, r1, r2, r3, r4⟩
 exact ⟨ι', σ', st', q, r1, r2, (Mono.unbox hj h).trans r3, r4⟩
theorem AWp.seqEx {α : Type} {x y : Code} {st : St} (S : α → List AVal) (B : α → List Blk) (I : α → Prop) (hx : AWp P rd h x (AThen (fun s' => ∃ a, Weak h s' ⟨S a, B a⟩ ∧ I a) Q) st) (hy : ∀ a, I a → AWp P rd h y Q ⟨S a, B a⟩) : AWp P rd h (.seq x y) Q st := by
 refine AWp.seq (hx.mono fun e s hq => ?_)
 cases e with
 | normal => obtain ⟨a, h1, h2⟩ := hq; exact AWp.weak h1 (hy a h2)
 | _ => exact hq
theorem SegRun.nil' {k m : Nat} {ps0 : List Nat} {tmA tmS : List AVal} (hk : ADr P rd h all m Q tmS H) : SegRun P rd h all k m ps0 Q tmA [] tmS H := hk
def quietS (P : Program) (all : Array Oper) (tmA : List AVal) (H : List Blk) (ps : List Nat) : Nat → List Oper → Prop
 | _, [] => True
 | i, o :: os => (i ∈ ps ∨ ((gwant all tmA o = some true ∧ aop P (aeval tmA) H o.op (fun rv H1 => (∀ d, o.dst = some d → rv = tmA.getD d (.c .any)) ∧ H1 = H)) ∨
   (gwant all tmA o = some false ∧ ∀ d, o.dst = some d → tmA.getD d (.c .any) = .tup []))) ∧ quietS P all tmA H ps (i + 1) os
theorem quietS_spec {tmA : List AVal} {ps : List Nat} : ∀ (os : List Oper) (i : Nat), quietS P all tmA H ps i os → ∀ (j : Nat) x, os[j]? = some x → ¬ i + j ∈ ps → QuietAt P rd all tmA H x
 | [], i, _, j, x, hx, _ => by simp at hx
 | o :: os, i, hq, j, x, hx, hp => by
  obtain ⟨h1, h2⟩ := hq
  cases j with
  | zero =>
   simp at hx; subst hx
   rcases h1 with h1 | ⟨hg, h1⟩ | ⟨hg, h1⟩
   ·exact absurd h1 (by simpa using hp)
   ·refine .inl ⟨hg, fun d hd => ?_⟩
    obtain ⟨rv, H1, s1, s2, rfl⟩ := aop_sound (rd := rd) h1
    rw [← s2 d hd]; exact s1
   ·exact .inr ⟨hg, h1⟩
  | succ j =>
   exact quietS_spec os (i + 1) h2 j x (by simpa using hx) (by rwa [show i + 1 + j = i + (j + 1) by omega])
theorem quietS_at {tmA : List AVal} {ps : List Nat} {k m : Nat} (hq : quietS P all tmA H ps k ((all.toList.drop k).take (m - k))) : ∀ (i : Nat) x, k ≤ i → i < m → ¬ i ∈ ps → all[i]? = some x → QuietAt P rd all tmA H x := fun i x h1 h2 h3 h4 =>
 quietS_spec _ k hq (i - k) x (by rw [List.getElem?_take_of_lt (by omega), List.getElem?_drop, show k + (i - k) = i by omega]; simpa using h4) (by rwa [show k + (i - k) = i by omega])
theorem quietS_nil {tmA : List AVal} {ps : List Nat} {i : Nat} : quietS P all tmA H ps i [] := trivial
theorem quietS_loud {tmA : List AVal} {ps : List Nat} {i : Nat} {os : List Oper} (hi : ps.contains i = true) (hr : quietS P all tmA H ps (i + 1) os) : quietS P all tmA H ps i (o :: os) := ⟨.inl (List.contains_iff_mem.1 hi), hr⟩
theorem quietS_one {tmA : List AVal} {ps : List Nat} {i : Nat} {os : List Oper} {d : Tmp} (hg : gwant all tmA o = some true) (hd : o.dst = some d) (ha : aop P (aeval tmA) H o.op (fun rv H1 => rv = tmA.getD d (.c .any) ∧ H1 = H)) (hr : quietS P all tmA H ps (i + 1) os) : quietS P all tmA H ps i (o :: os) := by
 refine ⟨.inr (.inl ⟨hg, ?_⟩), hr⟩
 have e : (fun (rv : AVal) (H1 : List Blk) => (∀ d, o.dst = some d → rv = tmA.getD d (.c .any)) ∧ H1 = H) = (fun rv H1 => rv = tmA.getD d (.c .any) ∧ H1 = H) := by
  funext rv H1
  rw [hd]
  simp
 rw [e]; exact ha
theorem zQS {F P : Prop} (f : F) (h : F → P := by
  intro f
  (repeat' first | exact quietS_nil | refine quietS_loud rfl ?_ | refine quietS_one rfl rfl ?_ ?_)
  all_goals (simp only [go_sem, List.getD_cons_succ, List.getD_cons_zero, List.getElem?_cons_succ, List.getElem?_cons_zero, Option.getD_some, and_self, true_and, Int.toNat_natCast, Nat.mul_one, f])) : P := h f
theorem ADr.segS' {k : Nat} (m : Nat) (ps : List Nat) (vals : List (Nat × AVal)) (hs : segOkS all k m ps = true) (hasc : ps.Pairwise (· < ·)) (hkm : k ≤ m)
  (hvs : (vals.map (·.1)).all (fun t => (List.range all.size).any fun i => decide (k ≤ i) && decide (i < m) && !ps.contains i && (dstOf all i == some t)) = true)
  (hq : quietS P all (setVals tm vals) H ps k ((all.toList.drop k).take (m - k))) (hR : SegRun P rd h all k m ps Q (setVals tm vals) ps (setVals tm vals) H) : ADr P rd h all k Q tm H := by
 refine ADr.segS hs hasc (setVals_len _ _) (fun t ht => setVals_ne vals tm fun x hx e => ?_) (quietS_at hq) hR hkm
 have h6 := List.all_eq_true.1 hvs x.1 (List.mem_map.2 ⟨x, hx, rfl⟩)
 obtain ⟨i, _, h7⟩ := List.any_eq_true.1 h6
 simp only [Bool.and_eq_true, decide_eq_true_eq, beq_iff_eq, Bool.not_eq_true'] at h7
 exact ht i h7.1.1.1 h7.1.1.2 (fun hm => by have := List.contains_iff_mem.2 hm; rw [h7.1.2] at this; cases this) (by rw [h7.2, e])
theorem SegRun.cons' {k m : Nat} {ps0 : List Nat} {tmA tmS : List AVal} {p : Nat} {ps : List Nat} {rest : List Oper} {R : AVal → List Blk → Prop} (he : all.toList.drop p = o :: rest) (hp : OpN P rd all tmS H o R)
  (hq : ∀ r H', R r H' → quietS P all tmA H' ps0 k ((all.toList.drop k).take (m - k))) (hk : ∀ r H', R r H' → SegRun P rd h all k m ps0 Q tmA ps (aput tmS o.dst r) H') : SegRun P rd h all k m ps0 Q tmA (p :: ps) tmS H :=
 ⟨o, R, drop_at he, hp, fun r H' hr => ⟨quietS_at (hq r H' hr), hk r H' hr⟩⟩
theorem SegRun.vc {k m : Nat} {ps0 : List Nat} {tmA tmS : List AVal} {p : Nat} {ps : List Nat} {rest : List Oper} (he : all.toList.drop p = o :: rest) (hg : gwant all tmS o = some true)
  (hv : ∀ K : AVal → List Blk → Prop, (∀ r H1, quietS P all tmA H1 ps0 k ((all.toList.drop k).take (m - k)) ∧ SegRun P rd h all k m ps0 Q tmA ps (aput tmS o.dst r) H1 → K r H1) → aop P (aeval tmS) H o.op K) : SegRun P rd h all k m ps0 Q tmA (p :: ps) tmS H := by
 obtain ⟨rv, H1, q1, q2, q3⟩ := aop_sound (rd := rd) (hv (fun r H1 => quietS P all tmA H1 ps0 k ((all.toList.drop k).take (m - k)) ∧ SegRun P rd h all k m ps0 Q tmA ps (aput tmS o.dst r) H1) (fun _ _ h => h))
 refine SegRun.cons' he (.inl ⟨hg, q1.n⟩) (fun r H' hr => ?_) (fun r H' hr => ?_)
 ·obtain ⟨rfl, rfl⟩ := hr; exact q2
 ·obtain ⟨rfl, rfl⟩ := hr; exact q3
theorem Weak.keepM (n : Nat) (ks : List Nat) {tm' : List AVal} {H' : List Blk} (e1 : Sp.mask (keepL n 0 ks) tm = tm' := by first | rfl | (simp [mask, keepL]; done)) (e2 : H = H' := by rfl) : Weak h ⟨tm, H⟩ ⟨tm', H'⟩ := by
 subst e1; subst e2; exact Weak.mask _ _ _
end
end Go.Sp
namespace Go.Sp
open Go.RowKit
section
variable {P : Program} {rd : Option Nat} {h : Nat} {Q : Exit → St → Prop} {all : Array Oper} {tm : List AVal} {H : List Blk}
def SegRunW (P : Program) (rd : Option Nat) (h : Nat) (all : Array Oper) (k m : Nat) (ps0 : List Nat) (Q : Exit → St → Prop) (tmA : List AVal) : List Nat → List AVal → List Blk → Prop
 | [], tmS, H => ADr P rd h all m Q tmS H
 | p :: ps, tmS, H => ∃ op R, all[p]? = some op ∧ OpN P rd all tmS H op R ∧
   ∀ r H', R r H' → (∀ (i : Nat) x, k ≤ i → i < m → ¬ i ∈ ps0 → bef all p i = false → all[i]? = some x → QuietAt P rd all tmA H' x) ∧ SegRunW P rd h all k m ps0 Q tmA ps (aput tmS op.dst r) H'
theorem ADr.segW {k m : Nat} {ps : List Nat} (hs : segOkS all k m ps = true) (hasc : ps.Pairwise (· < ·)) {tmA : List AVal} (hl : tmA.length = tm.length)
  (hA : ∀ t, (∀ i, k ≤ i → i < m → ¬ i ∈ ps → dstOf all i ≠ some t) → tmA[t]? = tm[t]?)
  (hq : ∀ (i : Nat) x, k ≤ i → i < m → ¬ i ∈ ps → all[i]? = some x → QuietAt P rd all tmA H x)
  (hR : SegRunW P rd h all k m ps Q tmA ps tmA H) (hkm : k ≤ m) : ADr P rd h all k Q tm H := by
 have S := segOkS_spec hs
 have hdi : ∀ (i : Nat) x, all[i]? = some x → dstOf all i = x.dst := fun i x hx => by simp [dstOf, hx]
 suffices key : ∀ s (X : List Nat) (rest : List Nat) (tmS : List AVal) (HS : List Blk), Sched all X s → Down all X → (∀ i, i < all.size → i ∈ X ∨ i ∈ s) → (∀ j, j ∈ X → j < m) → (∀ j, j < k → j ∈ X) →
   (∀ p, p ∈ ps → (p ∈ rest ↔ ¬ p ∈ X)) → (∀ p, p ∈ rest → p ∈ ps) → rest.Pairwise (· < ·) → tmS.length = tm.length →
   (∀ t, (∀ p, p ∈ ps → dstOf all p ≠ some t) → tmS[t]? = tmA[t]?) → (∀ t p, p ∈ rest → dstOf all p = some t → tmS[t]? = tmA[t]?) → SegRunW P rd h all k m ps Q tmA rest tmS HS →
   (∀ (i : Nat) x, k ≤ i → i < m → ¬ i ∈ ps → ¬ i ∈ X → all[i]? = some x → QuietAt P rd all tmA HS x) →
   ∀ N ι0 σ0 w0 H0 ι σ a w, SRel ι σ ⟨mixT (wrote all k X) tm tmS, HS⟩ a w → RdOK rd σ w → MarksOK N a.defers σ w → Ext σ0 w0 σ w → Mono (ι0.take h) σ0 w0 (H0.take h) ι σ w HS → wpOpsIn (Fr rd) 9 P all (APost N h ι0 σ0 w0 H0 Q) s a w by
  refine ⟨fun s X hX hs' hD hcov N ι0 σ0 w0 H0 ι σ a w h1 h2 h3 h4 h5 => ?_⟩
  have e : mixT (wrote all k X) tm tmA = tm := by
   apply List.ext_getElem?
   intro t
   by_cases ht : t < tm.length
   ·rw [mixT_get ht, if_neg (fun hw => by
     obtain ⟨i, q1, q2, _⟩ := wrote_iff.1 hw
     have := (hX i).1 q1; omega), List.getD_eq_getElem?_getD, List.getElem?_eq_getElem ht]; rfl
   ·rw [mixT_none ht]; exact (List.getElem?_eq_none (Nat.le_of_not_lt ht)).symm
  exact key s X ps tmA H hs' hD hcov (fun j hj => Nat.lt_of_lt_of_le ((hX j).1 hj) hkm) (fun j hj => (hX j).2 hj) (fun p hp => ⟨fun _ hx => by have := (hX p).1 hx; have := (S.pin p hp).1; omega, fun _ => hp⟩) (fun p hp => hp) hasc hl (fun t _ => rfl) (fun t p _ _ => rfl) hR (fun i x q1 q2 q3 _ q4 => hq i x q1 q2 q3 q4)
   N ι0 σ0 w0 H0 ι σ a w (by rw [e]; exact h1) h2 h3 h4 h5
 have fin : ∀ s (X : List Nat) (tmS : List AVal) (HS : List Blk), (∀ j, j ∈ X ↔ j < m) → Sched all X s → Down all X → (∀ i, i < all.size → i ∈ X ∨ i ∈ s) → tmS.length = tm.length → (∀ t, (∀ p, p ∈ ps → dstOf all p ≠ some t) → tmS[t]? = tmA[t]?) →
   ADr P rd h all m Q tmS HS → ∀ N ι0 σ0 w0 H0 ι σ a w, SRel ι σ ⟨mixT (wrote all k X) tm tmS, HS⟩ a w → RdOK rd σ w → MarksOK N a.defers σ w → Ext σ0 w0 σ w → Mono (ι0.take h) σ0 w0 (H0.take h) ι σ w HS → wpOpsIn (Fr rd) 9 P all (APost N h ι0 σ0 w0 H0 Q) s a w := by
  intro s X tmS HS hX hs' hD hcov hlS hoff hK N ι0 σ0 w0 H0 ι σ a w h1 h2 h3 h4 h5
  have e : mixT (wrote all k X) tm tmS = tmS := by
   apply List.ext_getElem?
   intro t
   by_cases ht : t < tm.length
   ·rw [mixT_get ht]
    have ht' : t < tmS.length := by rw [hlS]; exact ht
    by_cases hw : wrote all k X t = true
    ·rw [if_pos hw, List.getD_eq_getElem?_getD, List.getElem?_eq_getElem ht']; rfl
    ·rw [if_neg hw]
     have hn : ∀ i, k ≤ i → i < m → dstOf all i ≠ some t := fun i q3 q4 q5 => hw (wrote_iff.2 ⟨i, (hX i).2 q4, q3, q5⟩)
     rw [hoff t (fun p hp => hn p (S.pin p hp).1 (S.pin p hp).2), hA t (fun i q3 q4 _ => hn i q3 q4), List.getD_eq_getElem?_getD, List.getElem?_eq_getElem ht]; rfl
   ·rw [mixT_none ht]; exact (List.getElem?_eq_none (by rw [hlS]; exact Nat.le_of_not_lt ht)).symm
  rw [e] at h1
  exact hK.out s X hX hs' hD hcov N ι0 σ0 w0 H0 ι σ a w h1 h2 h3 h4 h5
 intro s
 induction s with
 | nil =>
  intro X rest tmS HS hs' hD hcov hm hk hrest hrs hra hlS hoff hoff2 hrun hq' N ι0 σ0 w0 H0 ι σ a w h1 h2 h3 h4 h5
  have hall : ∀ i, i < all.size → i ∈ X := fun i hi => by rcases hcov i hi with h | h; exact h; cases h
  have hX : ∀ j, j ∈ X ↔ j < m := fun j => ⟨hm j, fun hj => hall j (by have := S.ms; omega)⟩
  have hnil : rest = [] := by
   cases rest with
   | nil => rfl
   | cons p rest => exact absurd ((hX p).2 (S.pin p (hrs p (by simp))).2) ((hrest p (hrs p (by simp))).1 (by simp))
  subst hnil
  exact fin [] X tmS HS hX hs' hD hcov hlS hoff hrun N ι0 σ0 w0 H0 ι σ a w h1 h2 h3 h4 h5
 | cons i s ih =>
  intro X rest tmS HS hs' hD hcov hm hk hrest hrs hra hlS hoff hoff2 hrun hq' N ι0 σ0 w0 H0 ι σ a w h1 h2 h3 h4 h5
  by_cases hfull : ∀ j, k ≤ j → j < m → j ∈ X
  ·have hX : ∀ j, j ∈ X ↔ j < m := fun j => ⟨hm j, fun hj => by
    rcases Nat.lt_or_ge j k with h7 | h7
    ·exact hk j h7
    ·exact hfull j h7 hj⟩
   have hnil : rest = [] := by
    cases rest with
    | nil => rfl
    | cons p rest => exact absurd ((hX p).2 (S.pin p (hrs p (by simp))).2) ((hrest p (hrs p (by simp))).1 (by simp))
   subst hnil
   exact fin (i :: s) X tmS HS hX hs' hD hcov hlS hoff hrun N ι0 σ0 w0 H0 ι σ a w h1 h2 h3 h4 h5
  ·cases hs' with
   | cons ho hi hd hs'' =>
   rename_i o
   have hin := (Array.getElem?_eq_some_iff.1 ho).1
   have hki : k ≤ i := by
    rcases Nat.lt_or_ge i k with h7 | h7
    ·exact absurd (hk i h7) hi
    ·exact h7
   have him : i < m := by
    rcases Nat.lt_or_ge i m with h7 | h7
    ·exact h7
    ·exfalso
     refine hfull fun j q1 q2 => ?_
     have hjl : j < all.size := by have := S.ms; omega
     exact bef_in (S.cut j i _ o (Array.getElem?_eq_getElem hjl) ho q1 q2 h7) ho hD hd
   have hm' : ∀ j, j ∈ i :: X → j < m := fun j hj => by
    rcases List.mem_cons.1 hj with rfl | hj
    ·exact him
    ·exact hm j hj
   have hk' : ∀ j, j < k → j ∈ i :: X := fun j hj => List.mem_cons_of_mem _ (hk j hj)
   have rdEq : ∀ t, t ∈ readsOf all o → (mixT (wrote all k X) tm tmS)[t]? = tmS[t]? := by
    intro t ht
    by_cases htl : t < tm.length
    ·rw [mixT_get htl]
     by_cases hw : wrote all k X t = true
     ·rw [if_pos hw, List.getD_eq_getElem?_getD, List.getElem?_eq_getElem (by rw [hlS]; exact htl)]; rfl
     ·rw [if_neg hw]
      have hn : ∀ j, k ≤ j → j < m → dstOf all j ≠ some t := fun j q1 q2 q4 => hw (wrote_iff.2 ⟨j, by
       have hjl : j < all.size := by have := S.ms; omega
       have hoj : all[j]? = some all[j] := Array.getElem?_eq_getElem hjl
       obtain ⟨r1, r2, r3⟩ := S.rd j i _ o t hoj ho q1 q2 hki him (by rw [← hdi j _ hoj]; exact q4) ht
       exact bef_in r2 ho hD hd, q1, q4⟩)
      rw [hoff t (fun p hp => hn p (S.pin p hp).1 (S.pin p hp).2), hA t (fun j q1 q2 _ => hn j q1 q2), List.getD_eq_getElem?_getD, List.getElem?_eq_getElem htl]; rfl
    ·rw [mixT_none htl]; exact (List.getElem?_eq_none (by rw [hlS]; exact Nat.le_of_not_lt htl)).symm
   have evEq : ∀ x, x ∈ o.op.operands → aeval (mixT (wrote all k X) tm tmS) x = aeval tmS x := fun x hx =>
    aeval_congr fun t ht => rdEq t (by
     simp only [readsOf, List.mem_append]
     left
     exact List.mem_flatMap.2 ⟨x, by simpa using hx, ht⟩)
   have gEq : gwant all (mixT (wrote all k X) tm tmS) o = gwant all tmS o :=
    gwant_congr fun t ht => rdEq t (by simp only [readsOf, List.mem_append]; right; exact ht)
   have hwr : ∀ t, wrote all k (i :: X) t = (wrote all k X t || (o.dst == some t)) := fun t => by
    unfold wrote
    rw [List.any_cons, Bool.or_comm]
    simp only [hki, decide_true, Bool.true_and, hdi i o ho]
   unfold wpOpsIn
   simp only [ho]
   by_cases hip : i ∈ ps
   ·-- the next loud one
    have hir : i ∈ rest := (hrest i hip).2 hi
    cases rest with
    | nil => cases hir
    | cons p rest =>
    have hpi : p = i := by
     rcases List.mem_cons.1 hir with e | hir2
     ·exact e.symm
     ·exfalso
      have hlt : p < i := (List.pairwise_cons.1 hra).1 i hir2
      have hpp := hrs p (by simp)
      have hpX := (hrest p hpp).1 (by simp)
      have hpl : p < all.size := by have := (S.pin p hpp).2; have := S.ms; omega
      exact hpX (bef_in (S.ord p i _ o (Array.getElem?_eq_getElem hpl) ho hpp hip hlt) ho hD hd)
    subst hpi
    obtain ⟨op, R, hop, hp, hnext⟩ := hrun
    rw [hop] at ho
    obtain rfl : op = o := by simpa using ho
    have hdo : ∀ t, op.dst = some t → ∀ q, q ∈ rest → dstOf all q ≠ some t := fun t ht q hq e => by
     have hqs := hrs q (by simp [hq])
     have hql : q < all.size := by have := (S.pin q hqs).2; have := S.ms; omega
     have hne : p ≠ q := by have := (List.pairwise_cons.1 hra).1 q hq; omega
     exact S.ne p q op _ t hop (Array.getElem?_eq_getElem hql) hki him (S.pin q hqs).1 (S.pin q hqs).2 hne ht (by rw [← hdi q _ (Array.getElem?_eq_getElem hql)]; exact e)
    have fin2 : ∀ r, aput (mixT (wrote all k X) tm tmS) op.dst r = mixT (wrote all k (p :: X)) tm (aput tmS op.dst r) := fun r =>
     mix_put hwr (fun t ht hlt => by rw [ht]; exact aput_eq (by rw [hlS]; exact hlt)) (fun t ht _ => aput_ne ht)
    have go : ∀ r H', R r H' → ∀ a' w' ι' σ', TmpsRel ι' σ' w' H' (mixT (wrote all k (p :: X)) tm (aput tmS op.dst r)) a'.tmps → HRel ι' σ' w' H' → RdOK rd σ' w' → MarksOK N a'.defers σ' w' → Ext σ0 w0 σ' w' → Mono (ι0.take h) σ0 w0 (H0.take h) ι' σ' w' H' →
      wpOpsIn (Fr rd) 9 P all (APost N h ι0 σ0 w0 H0 Q) s a' w' := fun r H' hr a' w' ι' σ' t1 t2 t3 t4 t5 t6 => by
     obtain ⟨n1, n2⟩ := hnext r H' hr
     refine ih (p :: X) rest _ H' hs'' (down_cons hD hop hd) (cov_cons hcov) hm' hk' (fun q hq => ?_) (fun q hq => hrs q (by simp [hq])) (List.pairwise_cons.1 hra).2 (by rw [aput_length]; exact hlS) (fun t ht => ?_) (fun t q hq hqt => ?_) n2 (fun i x q1 q2 q3 q4 q5 => n1 i x q1 q2 q3 (by
      cases hb : bef all p i with
      | false => rfl
      | true => exact absurd (List.mem_cons_of_mem _ (bef_in hb hop hD hd)) q4) q5) N ι0 σ0 w0 H0 ι' σ' a' w' ⟨t1, t2⟩ t3 t4 t5 t6
     ·have := hrest q hq
      by_cases e : q = p
      ·subst e
       constructor
       ·intro hq2; exact absurd ((List.pairwise_cons.1 hra).1 q hq2) (by omega)
       ·intro hx; exact absurd (by simp) hx
      ·simp only [List.mem_cons, e, false_or] at this ⊢
       exact this
     ·rw [aput_ne (by rw [← hdi p op hop]; exact ht p hip)]; exact hoff t ht
     ·have hne : op.dst ≠ some t := fun e => hdo t e q hq hqt
      rw [aput_ne hne]; exact hoff2 t q (by simp [hq]) hqt
    rcases hp with ⟨hg, hp⟩ | ⟨hg, hR⟩
    ·rw [if_pos (gwant_spec h1.tmps (gEq.trans hg))]
     refine hp ι σ a w (fun x hx => by rw [← evEq x hx]; exact eval_rel h1.tmps x) h1.heap h2 _ _ fun rv H' v w' ι' σ' hr q1 q2 q3 q4 => ?_
     exact go rv H' hr _ w' ι' σ' (by rw [← fin2]; exact tmps_put (h1.tmps.mono q3) q1) q2 (h2.ext q4) (by rw [Act.put_defers]; exact h3.ext q4) (h4.trans q4) (h5.take2 (q3.take h))
    ·rw [if_neg (by rw [gwant_spec h1.tmps (gEq.trans hg)]; simp)]
     refine ⟨fun _ _ => trivial, ?_⟩
     exact go _ HS hR _ w ι σ (by rw [← fin2]; exact tmps_put h1.tmps undef_rel) h1.heap h2 (by rw [Act.put_defers]; exact h3) h4 h5
   ·obtain ⟨d, hdt⟩ := S.dst i o ho hki him hip
    have hqt := hq' i o hki him hip hi ho
    have rdA : ∀ t, t ∈ readsOf all o → tmS[t]? = tmA[t]? := fun t ht => hoff t (fun p hp e => by
     have hpl : p < all.size := by have := (S.pin p hp).2; have := S.ms; omega
     have hop : all[p]? = some all[p] := Array.getElem?_eq_getElem hpl
     exact hip ((S.rd p i _ o t hop ho (S.pin p hp).1 (S.pin p hp).2 hki him (by rw [← hdi p _ hop]; exact e) ht).2.2 hp))
    have evA : ∀ x, x ∈ o.op.operands → aeval tmS x = aeval tmA x := fun x hx => aeval_congr fun t ht => rdA t (by
     simp only [readsOf, List.mem_append]
     left
     exact List.mem_flatMap.2 ⟨x, by simpa using hx, ht⟩)
    have gA : gwant all tmS o = gwant all tmA o := gwant_congr fun t ht => rdA t (by simp only [readsOf, List.mem_append]; right; exact ht)
    have hSd : ∀ t, o.dst = some t → t < tm.length → tmS[t]? = some (tmA.getD d (.c .any)) := fun t ht hlt => by
     rw [hdt] at ht
     cases ht
     have e : tmS[d]? = tmA[d]? := hoff d (fun p hp e => by
      have hpl : p < all.size := by have := (S.pin p hp).2; have := S.ms; omega
      have hop : all[p]? = some all[p] := Array.getElem?_eq_getElem hpl
      exact S.ne i p o _ d ho hop hki him (S.pin p hp).1 (S.pin p hp).2 (fun e2 => hip (e2 ▸ hp)) hdt (by rw [← hdi p _ hop]; exact e))
     rw [e, List.getD_eq_getElem?_getD, List.getElem?_eq_getElem (by rw [hl]; exact hlt)]; rfl
    have fin2 : aput (mixT (wrote all k X) tm tmS) o.dst (tmA.getD d (.c .any)) = mixT (wrote all k (i :: X)) tm tmS := mix_put hwr hSd (fun _ _ _ => rfl)
    have hrest' : ∀ p, p ∈ ps → (p ∈ rest ↔ ¬ p ∈ i :: X) := fun p hp => by
     have := hrest p hp
     have hne : p ≠ i := fun e => hip (e ▸ hp)
     simp only [List.mem_cons, hne, false_or]
     exact this
    rcases hqt with ⟨hg, hp⟩ | ⟨hg, hR⟩
    ·rw [if_pos (gwant_spec h1.tmps (gEq.trans (gA.trans hg)))]
     refine hp d hdt ι σ a w (fun x hx => by rw [← evA x hx, ← evEq x hx]; exact eval_rel h1.tmps x) h1.heap h2 _ _ fun v w' ι' σ' q1 q2 q3 q4 => ?_
     refine ih (i :: X) rest tmS HS hs'' (down_cons hD ho hd) (cov_cons hcov) hm' hk' hrest' hrs hra hlS hoff hoff2 hrun (fun j x q1 q2 q3 q4 q5 => hq' j x q1 q2 q3 (fun h => q4 (List.mem_cons_of_mem _ h)) q5) N ι0 σ0 w0 H0 ι' σ' _ _ ⟨?_, q2⟩ (h2.ext q4) (by rw [Act.put_defers]; exact h3.ext q4) (h4.trans q4) (h5.take2 (q3.take h))
     rw [← fin2]
     exact tmps_put (h1.tmps.mono q3) q1
    ·rw [if_neg (by rw [gwant_spec h1.tmps (gEq.trans (gA.trans hg))]; simp)]
     refine ⟨fun _ _ => trivial, ?_⟩
     refine ih (i :: X) rest tmS HS hs'' (down_cons hD ho hd) (cov_cons hcov) hm' hk' hrest' hrs hra hlS hoff hoff2 hrun (fun j x q1 q2 q3 q4 q5 => hq' j x q1 q2 q3 (fun h => q4 (List.mem_cons_of_mem _ h)) q5) N ι0 σ0 w0 H0 ι σ _ _ ⟨?_, h1.heap⟩ h2 (by rw [Act.put_defers]; exact h3) h4 h5
     rw [← fin2, hR d hdt]
     exact tmps_put h1.tmps undef_rel
theorem ADr.segW' {k : Nat} (m : Nat) (ps : List Nat) (vals : List (Nat × AVal)) (hs : segOkS all k m ps = true) (hasc : ps.Pairwise (· < ·)) (hkm : k ≤ m)
  (hvs : (vals.map (·.1)).all (fun t => (List.range all.size).any fun i => decide (k ≤ i) && decide (i < m) && !ps.contains i && (dstOf all i == some t)) = true)
  (hq : quietS P all (setVals tm vals) H ps k ((all.toList.drop k).take (m - k))) (hR : SegRunW P rd h all k m ps Q (setVals tm vals) ps (setVals tm vals) H) : ADr P rd h all k Q tm H := by
 refine ADr.segW hs hasc (setVals_len _ _) (fun t ht => setVals_ne vals tm fun x hx e => ?_) (quietS_at hq) hR hkm
 have h6 := List.all_eq_true.1 hvs x.1 (List.mem_map.2 ⟨x, hx, rfl⟩)
 obtain ⟨i, _, h7⟩ := List.any_eq_true.1 h6
 simp only [Bool.and_eq_true, decide_eq_true_eq, beq_iff_eq, Bool.not_eq_true'] at h7
 exact ht i h7.1.1.1 h7.1.1.2 (fun hm => by have := List.contains_iff_mem.2 hm; rw [h7.1.2] at this; cases this) (by rw [h7.2, e])
theorem SegRunW.nil' {k m : Nat} {ps0 : List Nat} {tmA tmS : List AVal} (hk : ADr P rd h all m Q tmS H) : SegRunW P rd h all k m ps0 Q tmA [] tmS H := hk
theorem SegRunW.cons' {k m : Nat} {ps0 : List Nat} {tmA tmS : List AVal} {p : Nat} {ps : List Nat} {o : Oper} {rest : List Oper} {R : AVal → List Blk → Prop} (ws : List Nat) (hws : ws.all (fun i => ps0.contains i || bef all p i) = true) (he : all.toList.drop p = o :: rest) (hp : OpN P rd all tmS H o R)
  (hq : ∀ r H', R r H' → quietS P all tmA H' ws k ((all.toList.drop k).take (m - k))) (hk : ∀ r H', R r H' → SegRunW P rd h all k m ps0 Q tmA ps (aput tmS o.dst r) H') : SegRunW P rd h all k m ps0 Q tmA (p :: ps) tmS H :=
 ⟨o, R, drop_at he, hp, fun r H' hr => ⟨fun i x q1 q2 q3 q4 q5 => quietS_at (hq r H' hr) i x q1 q2 (fun hw => by
  have h8 := List.all_eq_true.1 hws i hw
  rw [Bool.or_eq_true] at h8
  rcases h8 with h8 | h8
  ·exact q3 (List.contains_iff_mem.1 h8)
  ·rw [q4] at h8; cases h8) q5, hk r H' hr⟩⟩
theorem SegRunW.vc {k m : Nat} {ps0 : List Nat} {tmA tmS : List AVal} {p : Nat} {ps : List Nat} {o : Oper} {rest : List Oper} (ws : List Nat) (hws : ws.all (fun i => ps0.contains i || bef all p i) = true) (he : all.toList.drop p = o :: rest) (hg : gwant all tmS o = some true)
  (hv : ∀ K : AVal → List Blk → Prop, (∀ r H1, quietS P all tmA H1 ws k ((all.toList.drop k).take (m - k)) ∧ SegRunW P rd h all k m ps0 Q tmA ps (aput tmS o.dst r) H1 → K r H1) → aop P (aeval tmS) H o.op K) : SegRunW P rd h all k m ps0 Q tmA (p :: ps) tmS H := by
 obtain ⟨rv, H1, q1, q2, q3⟩ := aop_sound (rd := rd) (hv (fun r H1 => quietS P all tmA H1 ws k ((all.toList.drop k).take (m - k)) ∧ SegRunW P rd h all k m ps0 Q tmA ps (aput tmS o.dst r) H1) (fun _ _ h => h))
 refine SegRunW.cons' ws hws he (.inl ⟨hg, q1.n⟩) (fun r H' hr => ?_) (fun r H' hr => ?_)
 ·obtain ⟨rfl, rfl⟩ := hr; exact q2
 ·obtain ⟨rfl, rfl⟩ := hr; exact q3
theorem zQW {F P : Prop} (f : F) (h : F → P := by
  intro f
  simp only [List.drop_zero, Nat.reduceSub, List.take_succ_cons, List.take_zero]
  (repeat' first | with_reducible exact quietS_nil | (with_reducible refine quietS_loud (by decide) ?_) | (with_reducible refine quietS_one (by kernel_rfl) (by with_unfolding_all rfl) ?_ ?_))
  all_goals (simp only [go_sem, List.getD_cons_succ, List.getD_cons_zero, List.getElem?_cons_succ, List.getElem?_cons_zero, Option.getD_some, and_self, true_and, Int.toNat_natCast, Nat.mul_one, f])) : P := h f
end
end Go.Sp
namespace Go.Sp
open Go.RowKit
theorem Weak.boxC {h : Nat} (i : Nat) {tm : List AVal} {H : List Blk} {cs : List ACell} (cs' : List ACell) (hi : H[i]? = some (.box cs)) (hh : h ≤ i)
  (hc : ∀ (p : Nat) c', cs'[p]? = some c' → ∃ c, cs[p]? = some c ∧ ∀ (ι : List Nat) (σ : Sig) (w : World) v, CRel ι σ w H c v → CRel ι σ w H c' v) : Weak h ⟨tm, H⟩ ⟨tm, H.set i (.box cs')⟩ := by
 intro ι σ a w hr
 have hil : i < H.length := (List.getElem?_eq_some_iff.1 hi).1
 have M : Mono ι σ w H ι σ w (H.set i (.box cs')) := by
  refine ⟨fun b o u h h' => ⟨h, h'⟩, fun _ _ h => h, fun id tip k0 hc => ?_⟩
  have hne : id ≠ i := by rintro rfl; rw [hi] at hc; cases hc
  exact ⟨tip, k0, by rw [List.getElem?_set_ne (Ne.symm hne)]; exact hc, MarkUp.refl _ _ _, .inr ⟨rfl, rfl, fun b o u h h' => ⟨h, ⟨u, h'⟩, fun h3 => h3⟩⟩⟩
 refine ⟨ι, ⟨hr.tmps.mono M, by simpa using hr.heap.1, fun id blk b h1 h2 => ?_⟩, rfl, by rw [List.take_set_of_le hh]⟩
 by_cases e : i = id
 ·subst e
  rw [List.getElem?_set_self hil] at h1
  cases h1
  obtain ⟨ha, hcs⟩ := hr.heap.2 i _ b hi h2
  refine ⟨ha, fun p c0 hp => ?_⟩
  obtain ⟨c, e1, e2⟩ := hc p c0 hp
  obtain ⟨q1, q2, v, q3, q4⟩ := hcs p c e1
  exact ⟨q1, q2, v, q3, M.cell (e2 ι σ w v q4)⟩
 ·rw [List.getElem?_set_ne e] at h1
  exact BlkRel.same M (hr.heap.2 id blk b h1 h2)
theorem Weak.untokBox {h : Nat} (i b : Nat) {tm : List AVal} {H : List Blk} {f : List (List (List Tree))} (hi : H[i]? = some (.box (chC b f))) (hh : h ≤ i) : Weak h ⟨tm, H⟩ ⟨tm, H.set i (.box (f.map fun r => .slice r .none))⟩ := by
 refine Weak.boxC i _ hi hh fun p c' hp => ?_
 rw [List.getElem?_map] at hp
 cases hf : f[p]? with
 | none => rw [hf] at hp; cases hp
 | some r =>
  rw [hf] at hp
  cases hp
  exact ⟨_, chC_get hf, fun ι σ w v hv => ⟨hv.1, trivial⟩⟩
end Go.Sp
namespace Go.Sp
open Go.RowKit
theorem ACall.of_bodyF {P : Program} {f : FuncId} {fn : Func} {c : Code} (hf : P.funcs[f]? = some fn) (hb : fn.body = some c) (hn : noNum fn.name = true) {args : List TVal} {r : TVal}
  (hw : FWp P 0 c (Rets P fn r) ⟨entry fn (args.map ofT), []⟩) : ACall P f args r := by
 refine ⟨enters_of hf hb hn, fun S w vs hl hv => ?_⟩
 refine callsIn_wide.1 (callsIn_of_wp_marks (F := Fence.wide) (n := 9) hf hb trivial ?_)
 classical
 let σ0 : Sig := fun b o => if S b o then .stable else .foreign
 have hst : ∀ b o, S b o → σ0 b o = .stable := fun b o h => by simp [σ0, h]
 have hmine : ∀ b o id, σ0 b o ≠ .mine id := fun b o id => by simp only [σ0]; split <;> simp
 have hrel : SRel [] σ0 ⟨entry fn (args.map ofT), []⟩ { tmps := vs.toArray ++ Array.replicate (fn.ntmps - vs.toArray.size) undef, defers := [] } w := by
  refine ⟨entry_rel (by simp [hl]) (fun j x u h1 h2 => ?_), rfl, by simp⟩
  simp only [List.getElem?_map] at h1
  cases hc : args[j]? with
  | none => simp [hc] at h1
  | some y => simp [hc] at h1; subst h1; exact ofT_rel ((hv j y u hc h2).mono fun b o u h3 h4 => ⟨hst b o h3, h4⟩)
 refine wpIn_mono (hw.out w.heap.size [] σ0 w [] [] σ0 _ w hrel (MarksOK.nil ..) (Nat.le_refl _) (Ext.refl ..) ((Mono.refl ..).take 0) (fun b o id h => (hmine b o id h).elim)) ?_
 rintro e a' w' ⟨ι', σ', st', ⟨he, hres⟩, h1, h2, h3, Ds, h4, h5, h6⟩
 have fin : LeavesInM (Fr none) 9 P fn a'.tmps (fun e w' => ∃ v, e = .returned v ∧ TVRel (fun b o => S b o ∨ w.heap.size ≤ b) w' r v ∧ Below w.heap.size w w' ∧ w.drawn ≤ w'.drawn) a'.defers .returning w' := by
  rw [h4]
  refine leaves_marks (N := w.heap.size) Ds w' h5 (fun D hD => let ⟨q1, q2, q3, _⟩ := h6 D hD; ⟨q1, q2, q3⟩) ?_
  intro w2 hb2 hc2 hx2 hd2 hdr2
  obtain ⟨v, r1, r2⟩ := aret_spec (h1.cells hc2 (fun b ob h h' _ => hx2 b ob h h') (fun g => ⟨hb2.os, hb2.tape, hb2.output, hb2.size, fun b o u h h' => ⟨h, by rw [hc2]; exact h'⟩, fun b hbl _ hgb => ⟨hd2 b (fun hD => by
   have h7 := (h6 b hD).2.2.2 0
   rcases hgb 0 with h8 | h8 <;> (rw [h7] at h8; cases h8)), fun _ => rfl⟩, Nat.le_of_eq hdr2.symm⟩)) hres
  refine ⟨v, r1, v, rfl, r2.mono fun b o u h7 h8 => ⟨?_, h8⟩, ?_⟩
  ·by_cases hlt : b < w.heap.size
   ·left
    by_cases hS : S b o
    ·exact hS
    ·exact (h7 (h2.back b o hlt (by simp [σ0, hS]))).elim
   ·right; omega
  ·refine ⟨?_, by rw [hdr2]; exact h2.drawn⟩
   exact Below.trans ⟨h2.os, h2.tape, h2.output, h2.size, fun b hb => (h2.obj b hb (fun o id => hmine b o id)).1⟩ hb2
 cases e with
 | normal => exact fin
 | ret => exact fin
 | exit id => exact he.elim
 | goto l => exact he.elim
 | panic ch => exact he.elim
 | outgrown => exact he.elim
def Tree.leafy : Tree → Bool
 | .slice rows => rows.all flatRow
 | .rptr cells => cells.all Tree.flat
 | .fn _ caps => caps.all Tree.flat
 | _ => true
def NotSlice (u : Value) : Prop := ∀ a n c, u ≠ .slice a n c
theorem notSlice_of_flat {S : Nat → Nat → Prop} {w : World} {t : Tree} {u : Value} (hf : t.flat = true) (h : TRel S w t u) : NotSlice u := by
 cases h <;> simp [Tree.flat] at hf <;> (intro a n c e; cases e)
section
variable {ι ι' : List Nat} {σ σ' : Sig} {w : World} {H H' : List Blk}
def KeepNS (σ σ' : Sig) (w : World) : Prop := ∀ b o u, σ b o = .stable → w.cell? ⟨b, o, none⟩ = some u → NotSlice u → σ' b o = .stable
theorem leafy_rel (hk : KeepNS σ σ' w) {t : Tree} {v : Value} (hl : t.leafy = true) (h : TRel (Stab σ) w t v) : TRel (Stab σ') w t v := by
 cases h with
 | int k n => exact .int k n
 | bool b => exact .bool b
 | str s => exact .str s
 | nil a c => exact .nil a c
 | slice b off k c rows cell hn hk' hc hr =>
  simp only [Tree.leafy, List.all_eq_true] at hl
  have hf : ∀ i r j (t : Tree), rows[i]? = some r → r[j]? = some t → t.flat = true := fun i r j t h1 h2 => flatRow_spec (hl r (List.mem_of_getElem? h1)) t (List.mem_of_getElem? h2)
  exact .slice b off k c rows cell hn hk' (fun i r j t h1 h2 => ⟨hk _ _ _ (hc i r j t h1 h2).1 (hc i r j t h1 h2).2 (notSlice_of_flat (hf i r j t h1 h2) (hr i r j t h1 h2)), (hc i r j t h1 h2).2⟩)
   (fun i r j t h1 h2 => TRel.of_flat (hf i r j t h1 h2) (hr i r j t h1 h2))
 | rptr b off cells cell hc hr =>
  simp only [Tree.leafy, List.all_eq_true] at hl
  have hf : ∀ j (t : Tree), cells[j]? = some t → t.flat = true := fun j t h => hl t (List.mem_of_getElem? h)
  exact .rptr b off cells cell (fun j t h => ⟨hk _ _ _ (hc j t h).1 (hc j t h).2 (notSlice_of_flat (hf j t h) (hr j t h)), (hc j t h).2⟩) (fun j t h => TRel.of_flat (hf j t h) (hr j t h))
 | fn f caps vs hr =>
  simp only [Tree.leafy, List.all_eq_true] at hl
  exact .fn f caps vs fun j t h => TRel.of_flat (hl t (List.mem_of_getElem? h)) (hr j t h)
 | nilf => exact .nilf
 | raw v h => exact .raw v h
def leafK : ACap → Prop
 | .tree t => t.leafy = true
 | _ => True
def leafC : ACell → Prop
 | .slice rows .none => rows.all flatRow = true
 | .rptr cells => cells.all Tree.flat = true
 | .fn _ caps => ∀ c, c ∈ caps → leafK c
 | c => safeC c
def leafV1 : AVal → Prop
 | .c x => leafC x
 | .agg cs => ∀ c, c ∈ cs → leafC c
 | .tup _ => True
def leafV : AVal → Prop
 | .c x => leafC x
 | .agg cs => ∀ c, c ∈ cs → leafC c
 | .tup xs => ∀ x, x ∈ xs → leafV1 x
def leafB : Blk → Prop
 | .box cs => ∀ c, c ∈ cs → leafC c
 | .ro ts => ∀ t, t ∈ ts → t.flat = true
 | .map es => ∀ e, e ∈ es → safeMV e.2
 | .ghost _ => False
 | _ => True
theorem leafC_rel (hk : KeepNS σ σ' w) (hi : ∀ (id b : Nat), ι[id]? = some b → ι'[id]? = some b) {c : ACell} {v : Value} (hs : leafC c) (h : CRel ι σ w H c v) : CRel ι' σ' w H' c v := by
 cases c with
 | slice rows tok =>
  cases tok with
  | none => exact ⟨leafy_rel hk hs h.1, trivial⟩
  | exact => exact hs.elim
  | chain _ => exact hs.elim
 | rptr cells => exact leafy_rel hk hs h
 | fn f caps =>
  obtain ⟨vs, e, hl, hv⟩ := h
  refine ⟨vs, e, hl, fun i c u h1 h2 => ?_⟩
  have h3 := hv i c u h1 h2
  have h4 := hs c (List.mem_of_getElem? h1)
  cases c with
  | ptr id off => obtain ⟨b, hb, e⟩ := h3; exact ⟨b, hi _ _ hb, e⟩
  | tree t => exact leafy_rel hk h4 h3
  | ref id k off len cap => obtain ⟨b, hb, e⟩ := h3; exact ⟨b, hi _ _ hb, e⟩
 | any => exact safeC_rel hi hs h
 | int k n => exact safeC_rel hi hs h
 | bool b => exact safeC_rel hi hs h
 | str s => exact safeC_rel hi hs h
 | nils => exact safeC_rel hi hs h
 | nilf => exact safeC_rel hi hs h
 | nilp => exact safeC_rel hi hs h
 | yld l => exact safeC_rel hi hs h
 | ptr id off => exact safeC_rel hi hs h
 | ref id k off len cap => exact safeC_rel hi hs h
 | map id => exact safeC_rel hi hs h
 | iter id => exact safeC_rel hi hs h
 | rows _ _ => exact safeC_rel hi hs h
 | rptrC _ => exact safeC_rel hi hs h
 | vec id len cap => exact safeC_rel hi hs h
 | raw _ => exact safeC_rel hi hs h
theorem leafV1_rel (hk : KeepNS σ σ' w) (hi : ∀ (id b : Nat), ι[id]? = some b → ι'[id]? = some b) {x : AVal} {v : Value} (hs : leafV1 x) (h : VRel1 ι σ w H x v) : VRel1 ι' σ' w H' x v := by
 cases x with
 | c x => exact leafC_rel hk hi hs h
 | agg cs => obtain ⟨vs, e, hl, h⟩ := h; exact ⟨vs, e, hl, fun j c u h1 h2 => leafC_rel hk hi (hs c (List.mem_of_getElem? h1)) (h j c u h1 h2)⟩
 | tup xs => exact h
theorem leafV_rel (hk : KeepNS σ σ' w) (hi : ∀ (id b : Nat), ι[id]? = some b → ι'[id]? = some b) {x : AVal} {v : Value} (hs : leafV x) (h : VRel ι σ w H x v) : VRel ι' σ' w H' x v := by
 cases x with
 | c x => exact leafC_rel hk hi hs h
 | agg cs => obtain ⟨vs, e, hl, h⟩ := h; exact ⟨vs, e, hl, fun j c u h1 h2 => leafC_rel hk hi (hs c (List.mem_of_getElem? h1)) (h j c u h1 h2)⟩
 | tup xs => obtain ⟨vs, e, hl, h⟩ := h; exact ⟨vs, e, hl, fun j x u h1 h2 => leafV1_rel hk hi (hs x (List.mem_of_getElem? h1)) (h j x u h1 h2)⟩
end
def sliceRow (r : List Tree) : Prop := ∀ t, t ∈ r → ∃ rs : List (List Tree), t = .slice rs ∧ rs.all flatRow = true
theorem slice_isSlice {S : Nat → Nat → Prop} {w : World} {rs : List (List Tree)} {u : Value} (h : TRel S w (.slice rs) u) : ¬ NotSlice u := by
 intro hn
 cases h with
 | nil a c => exact hn _ _ _ rfl
 | slice b off k c rows cell hn' hk hc hr => exact hn _ _ _ rfl
theorem thaw_coreL {ι : List Nat} {σ : Sig} {w : World} {H : List Blk} {rows : List (List Tree)} {i k : Nat} {tip : Nat} {v : Value} (hH : HRel ι σ w H) (hv : CRel ι σ w H (.slice rows (.chain i)) v) (hi : H[i]? = some (.chain tip k))
  (hrk : ∀ r, r ∈ rows → r.length = k) (hk : 0 < k) (hsl : ∀ r, r ∈ rows → sliceRow r) (hne : rows ≠ []) (hsafe : ∀ (id : Nat) (blk : Blk), H[id]? = some blk → leafB blk) :
  ∃ b cap, rows.length ≤ cap ∧ v = .slice (some ⟨b, 0, none⟩) rows.length cap ∧ (∃ o, σ b o = .mine i) ∧ σ b 0 = .stable ∧
   ∃ σ' : Sig, KeepNS σ σ' w ∧ (∀ b' o, b' ≠ b → σ' b' o = σ b' o) ∧ (∀ o, σ b o = .foreign → σ' b o = .foreign) ∧
    HRel (ι ++ [b]) σ' w (H ++ [.box (flatRows rows)]) := by
 obtain ⟨hT, tip', k', h1, h2, hmk, h3⟩ := hv
 cases hT with
 | nil a c => exact absurd rfl hne
 | slice b off k0 c rows cell hn hk0 hc hr =>
  have hl : 0 < rows.length := List.length_pos_iff.2 hne
  obtain ⟨hoff, arr, e, o, hb, hao, hmo⟩ := hmk (by omega)
  have hoff : off = 0 := hoff
  subst hoff
  have hkk : k0 = k := by
   obtain ⟨r, hr'⟩ := List.exists_mem_of_ne_nil _ hne
   rw [← hk0 r hr', hrk r hr']
  subst hkk
  have hcell : ∀ p t, rows.flatten[p]? = some t → σ b p = .stable ∧ ∃ u, w.cell? ⟨b, p, none⟩ = some u ∧ TRel (Stab σ) w t u ∧ ∃ rs : List (List Tree), t = .slice rs ∧ rs.all flatRow = true := fun p t hp => by
   obtain ⟨i', j, r, e', q1, q2⟩ := flatten_get hrk hp
   obtain ⟨s1, s2⟩ := hc i' r j t q1 q2
   rw [Nat.zero_add, ← e'] at s1 s2
   exact ⟨s1, _, s2, hr i' r j t q1 q2, hsl r (List.mem_of_getElem? q1) t (List.mem_of_getElem? q2)⟩
  have hfl := flatten_len hrk
  let σ' : Sig := fun b' o => if b' = b ∧ o < rows.flatten.length then .mine H.length else σ b' o
  have hpos : 0 < rows.flatten.length := by rw [hfl]; exact Nat.mul_pos hl hk
  have hst : ∀ p, p < rows.flatten.length → σ b p = .stable := fun p hp => (hcell p _ (List.getElem?_eq_getElem hp)).1
  have hkeep : KeepNS σ σ' w := fun b' o u q1 q2 q3 => by
   simp only [σ']
   rw [if_neg]
   ·exact q1
   ·rintro ⟨rfl, e2⟩
    obtain ⟨_, u', s2, s3, rs, e0, _⟩ := hcell o _ (List.getElem?_eq_getElem e2)
    rw [q2] at s2; cases s2
    rw [e0] at s3
    exact slice_isSlice s3 q3
  have hmine : ∀ {b' o id}, σ b' o = .mine id → σ' b' o = .mine id := fun {b' o id} h => by
   simp only [σ']
   rw [if_neg (fun ⟨e1, e2⟩ => by subst e1; rw [hst o e2] at h; cases h)]
   exact h
  have hext : ∀ (id b' : Nat), ι[id]? = some b' → (ι ++ [b])[id]? = some b' := fun id b' h => by rw [List.getElem?_append_left (List.getElem?_eq_some_iff.1 h).1]; exact h
  refine ⟨b, c, hn, rfl, ⟨o, hmo⟩, hst 0 hpos, σ', hkeep, fun b' o hb' => by simp [σ', hb'], fun o ho => ?_, by simp [hH.1], fun id blk b' q1 q2 => ?_⟩
  ·simp only [σ']
   rw [if_neg (fun ⟨_, e2⟩ => by rw [hst o e2] at ho; cases ho)]
   exact ho
  ·by_cases hid : id < H.length
   ·rw [List.getElem?_append_left hid] at q1
    rw [List.getElem?_append_left (by rw [hH.1]; exact hid)] at q2
    have := hH.2 id blk b' q1 q2
    have hsb := hsafe id blk q1
    cases blk with
    | box cs =>
     obtain ⟨ha, hcs⟩ := this
     exact ⟨ha, fun j c hj => let ⟨s1, s2, v, s3, s4⟩ := hcs j c hj; ⟨hmine s1, s2, v, s3, leafC_rel hkeep hext (hsb c (List.mem_of_getElem? hj)) s4⟩⟩
    | ro ts =>
     intro j t hj
     obtain ⟨s1, v, s2, s3⟩ := this j t hj
     have hf := hsb t (List.mem_of_getElem? hj)
     exact ⟨hkeep _ _ _ s1 s2 (notSlice_of_flat hf s3), v, s2, TRel.of_flat hf s3⟩
    | chain _ _ => trivial
    | dead => trivial
    | map es =>
     obtain ⟨s1, arr', s2, s3, s4⟩ := this
     exact ⟨fun o => hmine (s1 o), arr', s2, s3, fun j e x p1 p2 => ⟨(s4 j e x p1 p2).1, (s4 j e x p1 p2).2.1, safeMV_rel (hsb e (List.mem_of_getElem? p1)) (s4 j e x p1 p2).2.2⟩⟩
    | iter m n seen =>
     obtain ⟨s1, bm, s2, s3⟩ := this
     exact ⟨fun o => hmine (s1 o), bm, hext _ _ s2, s3⟩
    | ghost G => exact hsb.elim
   ·have hid' : id = H.length := by
     have := (List.getElem?_eq_some_iff.1 q1).1
     simp at this; omega
    subst hid'
    simp at q1
    rw [List.getElem?_append_right (by rw [hH.1]; exact Nat.le_refl _), hH.1, Nat.sub_self] at q2
    simp at q2
    subst q1; subst q2
    refine ⟨⟨arr, e, _, hb⟩, fun p c hp => ?_⟩
    simp only [flatRows, List.getElem?_map] at hp
    cases ht : rows.flatten[p]? with
    | none => simp [ht] at hp
    | some t =>
     simp [ht] at hp; subst hp
     obtain ⟨s1, u, s2, s3, rs, rfl, s5⟩ := hcell p t ht
     refine ⟨if_pos ⟨rfl, (List.getElem?_eq_some_iff.1 ht).1⟩, by unfold World.frozen?; rw [hb]; simp, u, s2, ?_⟩
     exact ⟨leafy_rel hkeep s5 s3, trivial⟩
section thaw
variable {P : Program} {h : Nat} {c : Code} {Q : Exit → St → Prop} {tm : List AVal} {H : List Blk} {rows : List (List Tree)} {i k tip : Nat}
theorem FWp.thawL (j c0 : Nat) {cs : List ACell} (hj : H[j]? = some (.box cs)) (hc0 : cs[c0]? = some (.slice rows (.chain i))) (hi : H[i]? = some (.chain tip k)) (hrk : ∀ r, r ∈ rows → r.length = k) (hk : 0 < k) (hsl : ∀ r, r ∈ rows → sliceRow r) (hne : rows ≠ [])
  (hsafe : ∀ (id : Nat) (blk : Blk), (H.set j (.box (cs.set c0 .any)))[id]? = some blk → leafB blk) (hsv : ∀ v, v ∈ tm → leafV v) (hmaps : ∀ id, id < h → ∃ es, H[id]? = some (.map es))
  (hw : ∀ cap, rows.length ≤ cap → FWp P h c Q ⟨tm, H.set j (.box (cs.set c0 (.ref H.length k 0 rows.length cap))) ++ [.box (flatRows rows)]⟩) : FWp P h c Q ⟨tm, H⟩ := by
 refine ⟨fun N ι0 σ0 w0 H0 ι σ a w h1 h2 h3 h4 h5 h6 => ?_⟩
 have hjl : j < H.length := (List.getElem?_eq_some_iff.1 hj).1
 have hij : i ≠ j := by rintro rfl; rw [hj] at hi; cases hi
 obtain ⟨bj, hbj, ha, hcs⟩ := h1.heap.get hj
 obtain ⟨z1, z2, v, z3, hv⟩ := hcs c0 _ hc0
 have hH1 : HRel ι σ w (H.set j (.box (cs.set c0 .any))) := by
  have M : Mono ι σ w H ι σ w (H.set j (.box (cs.set c0 .any))) := ⟨fun _ _ _ h h' => ⟨h, h'⟩, fun _ _ h => h, fun id tip' k' h => ⟨tip', k', by rw [List.getElem?_set_ne (by rintro rfl; rw [hj] at h; cases h)]; exact h, MarkUp.refl _ _ _, .inr ⟨rfl, rfl, fun _ _ u h h' => ⟨h, ⟨u, h'⟩, fun hf => hf⟩⟩⟩⟩
  refine ⟨by simp [h1.heap.1], fun id blk b p1 p2 => ?_⟩
  by_cases e : j = id
  ·subst e
   rw [List.getElem?_set_self hjl] at p1
   cases p1
   rw [hbj] at p2; cases p2
   refine ⟨ha, fun q cc hq => ?_⟩
   by_cases e2 : c0 = q
   ·subst e2
    rw [List.getElem?_set_self (List.getElem?_eq_some_iff.1 hc0).1] at hq
    cases hq
    exact ⟨z1, z2, v, z3, trivial⟩
   ·rw [List.getElem?_set_ne e2] at hq
    obtain ⟨y1, y2, u, y3, y4⟩ := hcs q cc hq
    exact ⟨y1, y2, u, y3, M.cell y4⟩
  ·rw [List.getElem?_set_ne e] at p1
   exact (h1.heap.2 id blk b p1 p2).same M
 have hi1 : (H.set j (.box (cs.set c0 .any)))[i]? = some (.chain tip k) := by rw [List.getElem?_set_ne (Ne.symm hij)]; exact hi
 have hv1 : CRel ι σ w (H.set j (.box (cs.set c0 .any))) (.slice rows (.chain i)) v := by
  obtain ⟨t1, tip', k', t2, t3⟩ := hv
  exact ⟨t1, tip', k', by rw [List.getElem?_set_ne (Ne.symm hij)]; exact t2, t3⟩
 obtain ⟨b, cap, q1, q2, q3, q4, σ', s0, s1, s2, s3⟩ := thaw_coreL hH1 hv1 hi1 hrk hk hsl hne hsafe
 obtain ⟨r1, r2, r3⟩ := thaw_step (H' := H.set j (.box (cs.set c0 (.ref H.length k 0 rows.length cap))) ++ [.box (flatRows rows)]) h2 h4 h5 h6 h1.heap hmaps hi q3 q4 s1 s2
 have hext : ∀ (id b' : Nat), ι[id]? = some b' → (ι ++ [b])[id]? = some b' := fun id b' h => by rw [List.getElem?_append_left (List.getElem?_eq_some_iff.1 h).1]; exact h
 refine (hw cap q1).out N ι0 σ0 w0 H0 (ι ++ [b]) σ' a w ⟨⟨h1.tmps.1, fun t' x v p1 p2 => leafV_rel s0 hext (hsv x (List.mem_of_getElem? p1)) (h1.tmps.2 t' x v p1 p2)⟩, ?_⟩ r1 h3 r2 r3 h6
 have M2 : Mono (ι ++ [b]) σ' w (H.set j (.box (cs.set c0 .any)) ++ [.box (flatRows rows)]) (ι ++ [b]) σ' w (H.set j (.box (cs.set c0 (.ref H.length k 0 rows.length cap))) ++ [.box (flatRows rows)]) := by
  refine ⟨fun _ _ _ h h' => ⟨h, h'⟩, fun _ _ h => h, fun id tip' k' hx => ⟨tip', k', ?_, MarkUp.refl _ _ _, .inr ⟨rfl, rfl, fun _ _ u h h' => ⟨h, ⟨u, h'⟩, fun hf => hf⟩⟩⟩⟩
  by_cases hid : id < H.length
  ·rw [List.getElem?_append_left (by simpa using hid)] at hx ⊢
   have hne' : j ≠ id := by rintro rfl; rw [List.getElem?_set_self hjl] at hx; cases hx
   rw [List.getElem?_set_ne hne'] at hx ⊢
   exact hx
  ·rw [List.getElem?_append_right (by simpa using Nat.not_lt.1 hid)] at hx ⊢
   simpa using hx
 refine ⟨by have := s3.1; simpa using this, fun id blk b' p1 p2 => ?_⟩
 by_cases hid : id < H.length
 ·rw [List.getElem?_append_left (by simpa using hid)] at p1
  by_cases e : j = id
  ·subst e
   rw [List.getElem?_set_self hjl] at p1
   cases p1
   have hold := s3.2 j (.box (cs.set c0 .any)) b' (by rw [List.getElem?_append_left (by simpa using hjl), List.getElem?_set_self hjl]) p2
   refine ⟨hold.1, fun q cc hq => ?_⟩
   by_cases e2 : c0 = q
   ·subst e2
    have hcl := (List.getElem?_eq_some_iff.1 hc0).1
    rw [List.getElem?_set_self hcl] at hq
    cases hq
    obtain ⟨y1, y2, u, y3, _⟩ := hold.2 c0 .any (by rw [List.getElem?_set_self hcl])
    refine ⟨y1, y2, u, y3, b, by rw [← h1.heap.1]; simp, ?_⟩
    have hbb : b' = bj := by
     have := hext j bj hbj
     rw [p2] at this; cases this; rfl
    subst hbb
    rw [z3] at y3; cases y3
    exact ⟨cap, Nat.le_refl _, q2⟩
   ·rw [List.getElem?_set_ne e2] at hq
    obtain ⟨y1, y2, u, y3, y4⟩ := hold.2 q cc (by rw [List.getElem?_set_ne e2]; exact hq)
    exact ⟨y1, y2, u, y3, M2.cell y4⟩
  ·rw [List.getElem?_set_ne e] at p1
   exact (s3.2 id blk b' (by rw [List.getElem?_append_left (by simpa using hid), List.getElem?_set_ne e]; exact p1) p2).same M2
 ·rw [List.getElem?_append_right (by simpa using Nat.not_lt.1 hid)] at p1
  refine (s3.2 id blk b' (by rw [List.getElem?_append_right (by simpa using Nat.not_lt.1 hid)]; simpa using p1) p2).same M2
end thaw
theorem FWp.atSeq {P : Program} {h : Nat} {Q : Exit → St → Prop} {st : St} (n : Nat) {ops : Array Oper} {b : Bool} {c : Code} (hw : FWp P h (.seq (.region n ops b) c) Q st) : FWp P h (.seq (.region n ops b) c) Q st := hw
end Go.Sp
namespace Go.Sp
open Go.RowKit Go.Sort
open Go.Proofs (ltOf)
section
variable {α : Type} [Inhabited α] (cell : α → Tree)
end
end Go.Sp
namespace Go.Sp
open Go.RowKit Go.Sort
open Go.Proofs (ltOf)
section
variable {ι : List Nat} {σ : Sig} {w : World} {H : List Blk} {id' b : Nat} {cs : List ACell}
theorem box_vals (hH : HRel ι σ w H) (hid : H[id']? = some (.box cs)) (hi : ι[id']? = some b) : ∃ F : List Value, F.length = cs.length ∧ Holds id w b 0 F.toArray ∧ CellsRel ι σ w H cs F.toArray := by
 obtain ⟨_, hc⟩ := hH.2 id' _ b hid hi
 obtain ⟨F, hl, hF⟩ := exists_list (fun j c v => w.frozen? ⟨b, j, none⟩ = false ∧ w.cell? ⟨b, j, none⟩ = some v ∧ CRel ι σ w H c v) cs (fun j c hj => by obtain ⟨_, q2, v, q3, q4⟩ := hc j c hj; exact ⟨v, q2, q3, q4⟩)
 refine ⟨F, hl, fun j hj => ?_, by simpa using hl, fun j c u h1 h2 => (hF j c u h1 (by simpa using h2)).2.2⟩
 have hj' : j < F.length := by simpa using hj
 have hjc : j < cs.length := by omega
 obtain ⟨q1, q2, _⟩ := hF j _ _ (List.getElem?_eq_getElem hjc) (List.getElem?_eq_getElem hj')
 rw [Nat.zero_add]
 refine ⟨?_, q1⟩
 rw [q2, getElem!_pos F.toArray j hj]
 simp
theorem sorted_relC (hH : HRel ι σ w H) (hid : H[id']? = some (.box cs)) (hi : ι[id']? = some b) {cs' : List ACell} {F' : List Value} (hv : CellsRel ι σ w H cs' F'.toArray) (hl : cs'.length = cs.length) (n : Nat) (os : Array Obj) :
  ∃ σ', HRel ι σ' (Sort.grow (putRow id (Sort.ahead w n) b 0 F'.toArray) os) (H.set id' (.box cs')) ∧ Mono ι σ w H ι σ' (Sort.grow (putRow id (Sort.ahead w n) b 0 F'.toArray) os) (H.set id' (.box cs')) ∧
   Ext σ w σ' (Sort.grow (putRow id (Sort.ahead w n) b 0 F'.toArray) os) := by
 obtain ⟨F, hFl, hh, _⟩ := box_vals hH hid hi
 have hsz : F'.toArray.size = F.toArray.size := by have := hv.1; simp at this ⊢; omega
 rw [putRow_ahead, setCells_putRow_id hh hsz]
 obtain ⟨_, g1, g2, g3⟩ := boxStore (j := 0) hH hid hi F'.toArray hv (by omega)
 have e : setMany cs 0 cs' = cs' := by
  apply List.ext_getElem?
  intro j
  rw [setMany_get _ _ _ _ (by omega)]
  split
  ·simp
  ·rename_i hj
   have h1 : cs'.length ≤ j := by simp at hj; exact hj
   rw [List.getElem?_eq_none h1, List.getElem?_eq_none (by omega)]
 rw [e] at g1 g2
 generalize w.setCells b 0 F'.toArray.toList = w1 at g1 g2 g3
 have hw : ∀ b, b < w1.heap.size → (Sort.grow (Sort.ahead w1 n) os).heap[b]? = w1.heap[b]? := fun b hb => by
  show (w1.heap ++ os)[b]? = _
  rw [Array.getElem?_append_left hb]
 have hs : ∀ b o, b < w1.heap.size → σ b o = σ b o := fun _ _ _ => rfl
 have hsize : w1.heap.size ≤ (Sort.grow (Sort.ahead w1 n) os).heap.size := by show _ ≤ (w1.heap ++ os).size; simp
 have hd : w1.drawn ≤ (Sort.grow (Sort.ahead w1 n) os).drawn := by show _ ≤ w1.drawn + n; omega
 have M : Mono ι σ w1 (H.set id' (.box cs')) ι σ (Sort.grow (Sort.ahead w1 n) os) (H.set id' (.box cs')) := by simpa using Mono.grow (ι := ι) (H := H.set id' (.box cs')) hw hs [] []
 have HH : HRel ι σ (Sort.grow (Sort.ahead w1 n) os) (H.set id' (.box cs')) := by simpa using g1.grow hw hs ⟨rfl, rfl, rfl, hsize, hd⟩ [] [] rfl (fun j blk b h1 _ => by simp at h1)
 exact ⟨σ, HH, g2.trans M, g3.trans (Ext.grow rfl rfl rfl hsize hw hs hd)⟩
end
theorem slice_one {S : Nat → Nat → Prop} {w : World} {rs : List (List Tree)} {u : Value} (h : TRel S w (.slice rs) u) : u.oneCell' = true := by cases h <;> rfl
theorem putRow_vals {m : Nat} (val : Fin m → Value) (w : World) (b : Nat) (ys : Array (Fin m)) [Inhabited (Fin m)] : putRow val w b 0 ys = putRow id w b 0 (ys.toList.map val).toArray := by
 unfold putRow
 congr 1
 funext c
 unfold putCells
 congr 1
 funext k x
 by_cases h : 0 ≤ k ∧ k < 0 + ys.size
 ·have hk : k - 0 < ys.size := by omega
  rw [if_pos h, if_pos (by simpa using h)]
  rw [getElem!_pos ys (k - 0) (by simpa using hk), getElem!_pos _ (k - 0) (by simpa using hk)]
  simp
 ·rw [if_neg h, if_neg (by simpa using h)]
noncomputable def sortIx {β : Type} (cf : β → β → Int) (xs : List β) : List β :=
 if h : 0 < xs.length then (@sortL (Fin xs.length) ⟨⟨0, h⟩⟩ (fun i j => cf xs[i] xs[j]) (List.finRange xs.length)).map fun i => xs[i] else []
theorem sortIx_spec {β : Type} {cf : β → β → Int} (hO : SWO (ltOf cf)) (xs : List β) : (sortIx cf xs).Perm xs ∧ ∀ (i j : Nat) x y, i < j → (sortIx cf xs)[i]? = some x → (sortIx cf xs)[j]? = some y → ltOf cf y x = false := by
 unfold sortIx
 split
 ·rename_i h
  have hO' : SWO (ltOf fun i j : Fin xs.length => cf xs[i] xs[j]) := ⟨fun x => hO.irrefl _, fun x y z => hO.trans _ _ _, fun x y z => hO.ntrans _ _ _⟩
  obtain ⟨h1, h2⟩ := @sortL_spec (Fin xs.length) ⟨⟨0, h⟩⟩ _ hO' (List.finRange xs.length)
  refine ⟨?_, fun i j x y hij hx hy => ?_⟩
  ·have := h1.map fun i => xs[i]
   refine this.trans (List.Perm.of_eq ?_)
   apply List.ext_getElem
   ·simp
   ·intro i p q; simp
  ·simp only [List.getElem?_map, Option.map_eq_some_iff] at hx hy
   obtain ⟨a, ha, rfl⟩ := hx
   obtain ⟨b, hb, rfl⟩ := hy
   exact h2 i j a b hij ha hb
 ·rename_i h
  have : xs = [] := by cases xs with
   | nil => rfl
   | cons => simp at h
  subst this
  exact ⟨List.Perm.refl _, by simp⟩
theorem SortFuncS_call {P : Program} {ρ : Go.Shelf.Ren} {β : Type} (L : Go.Proofs.SlLaysF.n6 P ρ) (rw' : β → List (List Tree)) (cf : β → β → Int) (hO : SWO (ltOf cf)) (g : Nat)
  (hcmp : ∀ x y, ACall P g [.t (.slice (rw' x)), .t (.slice (rw' y))] (.t (.int .i64 (cf x y)))) (hent : ∀ args w, (callFunc (ρ.f 6) args).run P w = .ok (.enter (ρ.f 6) args) w) (xs : List β) (hpos : 0 < xs.length) (hlen : xs.length < 4611686018427387904)
  {H : List Blk} {id' cap : Nat} (hid : H[id']? = some (.box (xs.map fun x => .slice (rw' x) .none))) :
  ACallH P (ρ.f 6) H [.c (.ref id' 1 0 xs.length cap), .c (.fn g [])] (H.set id' (.box ((sortIx cf xs).map fun x => .slice (rw' x) .none))) (.tup []) := by
 refine ⟨hent, fun ι σ w vs hH hl hv => ?_⟩
 match vs, hl with
 | [v0, v1], _ =>
 have h0 : CRel ι σ w H (.ref id' 1 0 xs.length cap) v0 := hv 0 _ v0 rfl rfl
 have h1 : CRel ι σ w H (.fn g []) v1 := hv 1 _ v1 rfl rfl
 obtain ⟨b, hi, cap', _, rfl⟩ := h0
 obtain ⟨ws, rfl, hwl, _⟩ := h1
 have : ws = [] := by simpa using hwl
 subst this
 obtain ⟨F, hFl, hh, hF⟩ := box_vals hH hid hi
 have hFl' : F.length = xs.length := by simpa using hFl
 obtain ⟨⟨arr, e, fz, ha⟩, _⟩ := hH.2 id' _ b hid hi
 letI : Inhabited (Fin xs.length) := ⟨⟨0, hpos⟩⟩
 let val : Fin xs.length → Value := fun i => F[i.val]'(by have := i.isLt; omega)
 have hval : ∀ i : Fin xs.length, TRel (Stab σ) w (.slice (rw' xs[i])) (val i) := fun i => by
  have h1 : (xs.map fun x => ACell.slice (rw' x) .none)[i.val]? = some (.slice (rw' xs[i]) .none) := by simp
  have h2 : F.toArray[i.val]? = some (val i) := by
   have := i.isLt
   simp only [List.getElem?_toArray]
   exact List.getElem?_eq_getElem (by omega)
  exact (hF.2 _ _ _ h1 h2).1
 have hone : ∀ i, (val i).oneCell' = true := fun i => slice_one (hval i)
 have hcells : ∀ ys : List (Fin xs.length), CellsRel ι σ w H (ys.map fun i => ACell.slice (rw' xs[i]) .none) (ys.map val).toArray := fun ys => by
  refine ⟨by simp, fun j c u h1 h2 => ?_⟩
  simp only [List.getElem?_map, List.getElem?_toArray] at h1 h2
  cases hy : ys[j]? with
  | none => simp [hy] at h1
  | some i => simp [hy] at h1 h2; subst h1; subst h2; exact ⟨hval i, trivial⟩
 have hfin : ((List.finRange xs.length).map val) = F := by
  apply List.ext_getElem
  ·simp [hFl']
  ·intro i p q; simp [val]
 have hholds : Holds val w b 0 (List.finRange xs.length).toArray := by
  intro j hj
  have hj' : j < xs.length := by simpa using hj
  have := hh j (by simp; omega)
  rw [getElem!_pos F.toArray j (by simp; omega)] at this
  rw [getElem!_pos _ j hj]
  simpa [val] using this
 have hO' : SWO (ltOf fun i j : Fin xs.length => cf xs[i] xs[j]) := ⟨fun x => hO.irrefl _, fun x y z => hO.trans _ _ _, fun x y z => hO.ntrans _ _ _⟩
 have hc : Go.Proofs.CmpLays1 P g #[] val (fun i j => cf xs[i] xs[j]) b 0 (List.finRange xs.length).toArray.size w := by
  intro m os dk hdk x y
  have hdk' : dk.toList.length = xs.length := by simpa using hdk
  obtain ⟨σ', r1, r2, r3⟩ := sorted_relC hH hid hi (hcells dk.toList) (by simp only [List.length_map]; exact hdk') m os
  have hW : Go.Proofs.sortWorld val w b 0 m dk os = Sort.grow (putRow id (Sort.ahead w m) b 0 (dk.toList.map val).toArray) os := by
   unfold Go.Proofs.sortWorld
   rw [← putRow_vals val]
  rw [hW]
  generalize Sort.grow (putRow id (Sort.ahead w m) b 0 (dk.toList.map val).toArray) os = W at *
  have := (hcmp xs[x] xs[y]).runs (Stab σ') W [val x, val y] rfl (fun j z u q1 q2 => by
   match j with
   | 0 => simp at q1 q2; subst q1; subst q2; exact r2.t (hval x)
   | 1 => simp at q1 q2; subst q1; subst q2; exact r2.t (hval y)
   | j + 2 => simp at q1)
  refine Calls.mono (R := fun e w' => ∃ v, e = .returned v ∧ _) (by simpa using this) ?_
  rintro e w' ⟨v, rfl, hr, hb, hd⟩
  cases hr
  obtain ⟨q, os', hw⟩ := grow_of_below hb hd
  exact ⟨rfl, q, os', hw⟩
 have run := Go.Proofs.Any.slices_SortFunc_eq L val hone (fun i j => cf xs[i] xs[j]) hO' g #[] b 0 cap' (List.finRange xs.length).toArray w (hcmp xs[(⟨0, hpos⟩ : Fin xs.length)] xs[(⟨0, hpos⟩ : Fin xs.length)]).enters hc hholds (Array.getElem?_eq_some_iff.1 ha).1 (by simpa using hlen)
 refine Calls.mono (by simpa using run) ?_
 rintro e w' ⟨rfl, n, os, hw⟩
 have hs : sortIx cf xs = (sortL (fun i j : Fin xs.length => cf xs[i] xs[j]) (List.finRange xs.length)).map fun i => xs[i] := by
  unfold sortIx; rw [dif_pos hpos]
 have hsl : (sortL (fun i j : Fin xs.length => cf xs[i] xs[j]) (List.finRange xs.length)).length = xs.length := by
  rw [(sortL_spec hO' _).1.length_eq]; simp
 have hw2 : w' = Sort.grow (putRow id (Sort.ahead w n) b 0 ((sortL (fun i j : Fin xs.length => cf xs[i] xs[j]) (List.finRange xs.length)).map val).toArray) os := by
  rw [hw]
  unfold Go.Proofs.sortWorld
  rw [putRow_vals val]
  unfold sortL
  rw [List.length_finRange]
  rfl
 rw [hw2, hs, List.map_map]
 obtain ⟨σ', r1, r2, r3⟩ := sorted_relC hH hid hi (hcells (sortL (fun i j : Fin xs.length => cf xs[i] xs[j]) (List.finRange xs.length))) (by rw [List.length_map, List.length_map]; exact hsl) n os
 exact ⟨_, ι, σ', rfl, ⟨#[], rfl, rfl, by simp⟩, r1, r2, r3⟩
theorem SortFuncS_none {P : Program} {ρ : Go.Shelf.Ren} (L : Go.Proofs.SlLaysF.n6 P ρ) (hent : ∀ args w, (callFunc (ρ.f 6) args).run P w = .ok (.enter (ρ.f 6) args) w) {H : List Blk} {v : AVal} {tok : Tok} : ACallH P (ρ.f 6) H [.c (.slice [] tok), v] H (.tup []) := by
 refine ⟨hent, fun ι σ w vs hH hl hv => ?_⟩
 match vs, hl with
 | [v0, v1], _ =>
 have h0 : CRel ι σ w H (.slice [] tok) v0 := hv 0 _ v0 rfl rfl
 obtain ⟨hT, _⟩ := h0
 have key : ∀ a c, Calls P (ρ.f 6) #[.slice a 0 c, v1] w fun e w' => ∃ v ι' σ', e = .returned v ∧ VRel ι' σ' w' H (.tup []) v ∧ HRel ι' σ' w' H ∧ Mono ι σ w H ι' σ' w' H ∧ Ext σ w σ' w' := fun a c => by
  refine (Go.Proofs.AnyF.slices_SortFunc_none { L with } a c v1 w).mono ?_
  rintro e w' ⟨rfl, rfl⟩
  exact ⟨_, ι, σ, rfl, ⟨#[], rfl, rfl, by simp⟩, hH, Mono.refl .., Ext.refl ..⟩
 cases hT with
 | nil a c => exact key a c
 | slice b off k c rows cell hn hk hc hr => exact key _ c
end Go.Sp
namespace Go.Sp
open Go.RowKit
def sw (p i : Nat) : Nat := if i = p then p + 1 else if i = p + 1 then p else i
def fixO (pos : Nat → Nat) (a b i : Nat) (o : Oper) : Oper :=
 { o with after := (o.after.toList.map (fun e => Edge.mk (pos e.on) e.ground) ++ if i = b then [Edge.mk (pos a) .data] else []).toArray, guard := none }
def reord (pos : Nat → Nat) (a b : Nat) (ops : Array Oper) : Array Oper :=
 ((List.range ops.size).map fun k => fixO pos a b (pos k) (ops[pos k]?.getD ⟨none, .move (.tmp 0), 0, "", #[], none⟩)).toArray
structure Pos (pos : Nat → Nat) (n : Nat) : Prop where
 two : ∀ i, pos (pos i) = i
 lt : ∀ i, i < n → pos i < n
theorem Pos.id (n : Nat) : Pos (fun i => i) n := ⟨fun _ => rfl, fun _ h => h⟩
variable {pos : Nat → Nat} {a b : Nat} {ops : Array Oper}
theorem reord_size : (reord pos a b ops).size = ops.size := by simp [reord]
theorem reord_get (hp : Pos pos ops.size) (i : Nat) : (reord pos a b ops)[pos i]? = (ops[i]?).map (fixO pos a b i) := by
 by_cases hi : i < ops.size
 ·have h1 := hp.lt i hi
  have e : ops[i]? = some ops[i] := Array.getElem?_eq_getElem hi
  rw [e]
  simp [reord, h1, hp.two i, e]
 ·have h1 : ¬ pos i < ops.size := fun h => hi (by have := hp.lt _ h; rwa [hp.two] at this)
  rw [Array.getElem?_eq_none (xs := reord pos a b ops) (by rw [reord_size]; omega), Array.getElem?_eq_none (xs := ops) (by omega)]; rfl
theorem wp_fix (F : Fence) (n : Nat) (P : Program) (o : Oper) (pos : Nat → Nat) (a b i : Nat) : (fixO pos a b i o).wpIn F n P = o.wpIn F n P := by
 cases o; rfl
theorem wpOps_reord (F : Fence) (n : Nat) (P : Program) (Q : Exit → Act → World → Prop) (hp : Pos pos ops.size) (hg : ∀ (i : Nat) o, ops[i]? = some o → o.guard = none) :
  ∀ s : List Nat, wpOpsIn F n P (reord pos a b ops) Q (s.map pos) = wpOpsIn F n P ops Q s := by
 intro s
 induction s with
 | nil => rfl
 | cons i s ih =>
  funext x w
  simp only [List.map_cons, wpOpsIn, reord_get hp]
  cases ho : ops[i]? with
  | none => simp only [Option.map_none, ih]
  | some o =>
   have hgo := hg i o ho
   have e1 : Region.wanted (fixO pos a b i o) (yielded (reord pos a b ops) x.tmps) = true := rfl
   have e2 : Region.wanted o (yielded ops x.tmps) = true := by simp [Region.wanted, hgo]
   simp only [Option.map_some, e1, e2, if_true, ih, wp_fix]
def Before (a b : Nat) : List Nat → List Nat → Prop
 | _, [] => True
 | X, i :: s => (i = b → a ∈ X) ∧ Before a b (i :: X) s
theorem before_in {a b : Nat} : ∀ (s X : List Nat), a ∈ X → Before a b X s
 | [], _, _ => True.intro
 | i :: s, X, h => ⟨fun _ => h, before_in s (i :: X) (List.mem_cons_of_mem _ h)⟩
theorem before_or {a b : Nat} (hab : a ≠ b) : ∀ (s X : List Nat), Before a b X s ∨ Before b a X s
 | [], _ => .inl True.intro
 | i :: s, X => by
  by_cases h1 : i = a
  ·subst h1
   exact .inl ⟨fun h => absurd h hab, before_in s _ (by simp)⟩
  ·by_cases h2 : i = b
   ·subst h2
    exact .inr ⟨fun h => absurd h h1, before_in s _ (by simp)⟩
   ·rcases before_or hab s (i :: X) with h | h
    ·exact .inl ⟨fun h' => absurd h' h2, h⟩
    ·exact .inr ⟨fun h' => absurd h' h1, h⟩
theorem sched_reord (hp : Pos pos ops.size) : ∀ (s X : List Nat), Sched ops X s → Before a b X s → Sched (reord pos a b ops) (X.map pos) (s.map pos) := by
 intro s
 induction s with
 | nil => intro X _ _; exact .nil _
 | cons i s ih =>
  intro X hs hb
  cases hs with
  | cons ho hi hd hs =>
  refine .cons (o := fixO pos a b i _) (by rw [reord_get hp, ho]; rfl) ?_ ?_ (by have := ih _ hs hb.2; simpa using this)
  ·intro h
   obtain ⟨j, hj, e⟩ := List.mem_map.1 h
   have : j = i := by rw [← hp.two j, e, hp.two]
   exact hi (this ▸ hj)
  ·intro e he hbd
   simp only [fixO, List.mem_toArray, List.mem_append, List.mem_map] at he
   rcases he with ⟨e', he', rfl⟩ | he
   ·have : Region.binds .any e' = true := by simpa [Region.binds] using hbd
    exact List.mem_map_of_mem (hd e' (by simpa using he') this)
   ·split at he
    ·rename_i hib
     simp only [List.mem_singleton] at he
     subst he
     exact List.mem_map_of_mem (hb.1 hib)
    ·cases he
variable {wd : Bool} {P : Program} {rd : Option Nat}
def Sim (l l' : List Oper) : Prop := l.length = l'.length ∧ ∀ (k : Nat) o, l[k]? = some o → ∃ aft, l'[k]? = some { o with after := aft, guard := none }
theorem astep_fix {o : Oper} {aft : Array Edge} {ρ : Operand → AVal} {H H' : List Blk} {rv : AVal} (h : AStep P rd o ρ H rv H') : AStep P rd { o with after := aft, guard := none } ρ H rv H' := by
 cases o; exact h
theorem RunD.fix {all all' : Array Oper} {l : List Oper} {tm tm' : List AVal} {H H' : List Blk} {r : List (AVal × List Blk)} (h : RunD wd P rd all l tm H r tm' H') :
  ∀ l', Sim l l' → (∀ o, o ∈ l → o.guard = none) → RunD wd P rd all' l' tm H r tm' H' := by
 induction h with
 | nil tm H =>
  intro l' hs _
  have : l' = [] := List.length_eq_zero_iff.1 hs.1.symm
  rw [this]; exact .nil _ _
 | cons hs hr ih =>
  rename_i o rest tm tm' H H' H'' rv l
  intro l' hsim hg
  cases l' with
  | nil => exact absurd hsim.1 (by simp)
  | cons o' l' =>
   obtain ⟨aft, he⟩ := hsim.2 0 o rfl
   simp at he
   subst he
   have hgo := hg o (by simp)
   have g1 : gwant all tm o = some true := by unfold gwant; rw [hgo]
   have hs' : StepD wd P rd all' { o with after := aft, guard := none } tm H rv H' := by
    rcases hs with ⟨h1, _⟩ | ⟨_, h2⟩
    ·rw [g1] at h1; cases h1
    ·refine .inr ⟨rfl, ?_⟩
     rcases h2 with ⟨a1, a2, a3, a4⟩ | ⟨a1, a2, a3⟩
     ·exact .inl ⟨a1, a2, fun H => astep_fix (a3 H), a4⟩
     ·exact .inr ⟨a1, astep_fix a2, a3⟩
   exact .cons hs' (ih l' ⟨by simpa using hsim.1, fun k o hk => by have := hsim.2 (k + 1) o (by simpa using hk); simpa using this⟩ (fun x hx => hg x (List.mem_cons_of_mem _ hx)))
theorem sim_reord (hp : Pos pos ops.size) (l : List Oper) (hl : l.length = ops.size) (hk : ∀ k : Nat, k < ops.size → l[k]? = ops[pos k]?) : Sim l (reord pos a b ops).toList := by
 refine ⟨by rw [hl]; simp [reord_size], fun k o ho => ?_⟩
 have hlt : k < ops.size := by have := (List.getElem?_eq_some_iff.1 ho).1; omega
 rw [hk k hlt] at ho
 have h1 := reord_get (a := a) (b := b) hp (pos k)
 rw [hp.two, ho] at h1
 exact ⟨_, by rw [Array.getElem?_toList, h1]; rfl⟩
theorem draw_run {tm : List AVal} {H : List Blk} (hok : drawOk wd ops = true) {l : List (AVal × List Blk)} {tm' : List AVal} {H' : List Blk} (hr : RunD wd P rd ops ops.toList tm H l tm' H') {s : List Nat} (hs : Sched ops [] s) (hcov : ∀ i, i < ops.size → i ∈ s)
  {Q : Exit → Act → World → Prop} {ι : List Nat} {σ : Sig} {a : Act} {w : World} (h1 : TmpsRel ι σ w H tm a.tmps) (h2 : HRel ι σ w H) (h3 : RdOK rd σ w) {σ0 : Sig} {w0 : World} (hm : Mono ι σ0 w0 H ι σ w H) (he : Ext σ0 w0 σ w)
  (hq : ∀ ι' σ' a' w', TmpsRel ι' σ' w' H' tm' a'.tmps → HRel ι' σ' w' H' → Mono ι σ0 w0 H ι' σ' w' H' → Ext σ0 w0 σ' w' → a'.defers = a.defers → Q .normal a' w') : wpOpsIn (Fr rd) 9 P ops Q s a w := by
 let rv : Nat → AVal := fun i => ((l[i]?).map (·.1)).getD (.c .any)
 let Hs : Nat → List Blk := fun i => match i with | 0 => H | i + 1 => ((l[i]?).map (·.2)).getD H
 obtain ⟨s1, s2, s3⟩ := hr.all (rv := rv) (Hs := Hs) (tm0 := tm) 0 (fun j => by simp) (fun j x hj => by simp [rv, Hs, hj]) rfl rfl
 let T : Trace wd P rd ops tm H := ⟨fun _ => true, rv, Hs, rfl, fun i o ho => by
  have := s1 i o (by simpa using ho)
  simp only [Nat.zero_add] at this
  exact this⟩
 have hn : ops.toList.length = ops.size := by simp
 rw [hn] at s2 s3
 simp only [Nat.zero_add] at s2 s3
 have e0 : replay (dstOf ops) T.rv (mem []) ops.size tm = tm := by
  have : ∀ m, replay (dstOf ops) T.rv (mem []) m tm = tm := by
   intro m
   induction m with
   | zero => rfl
   | succ m ih => simp only [replay, mem, List.not_mem_nil, decide_false, Bool.false_eq_true, if_false]; exact ih
  exact this _
 refine T.sound hok Q a.defers ι σ0 w0 ?_ s [] hs (fun j o hj => by cases hj) (fun i hi => .inr (hcov i hi)) (by simp) ι σ a w 0 (Nat.zero_le _) (fun j hj hl => by simp) ?_ h2 h3 hm he rfl
 ·intro ι' σ' a' w' q1 q2 q3 q4 q5
  have e3 : T.Hs ops.size = H' := s3.symm
  have e2 : replay (dstOf ops) T.rv (fun _ => true) ops.size tm = tm' := s2.symm
  rw [e3] at q1 q2 q3
  rw [e2] at q1
  exact hq ι' σ' a' w' q1 q2 q3 q4 q5
 ·rw [e0]; exact h1
end Go.Sp
namespace Go.Sp
open Go.RowKit
def bsw (k i : Nat) : Nat := if i < k then i + k else if i < 2 * k then i - k else i
theorem Pos.bsw {k n : Nat} (h : 2 * k ≤ n) : Pos (bsw k) n := by
 refine ⟨fun i => ?_, fun i hi => ?_⟩
 ·unfold Sp.bsw
  by_cases h1 : i < k
  ·rw [if_pos h1, if_neg (by omega), if_pos (by omega)]; omega
  ·rw [if_neg h1]
   by_cases h2 : i < 2 * k
   ·rw [if_pos h2, if_pos (by omega)]; omega
   ·rw [if_neg h2, if_neg h1, if_neg h2]
 ·unfold Sp.bsw; split
  ·omega
  ·split <;> omega
def bswL (k : Nat) (l : List Oper) : List Oper := (l.drop k).take k ++ (l.take k ++ l.drop (2 * k))
theorem bswL_get (k : Nat) (l : List Oper) (i : Nat) (h : 2 * k ≤ l.length) : (bswL k l)[i]? = l[bsw k i]? := by
 have e1 : ((l.drop k).take k).length = k := by simp; omega
 have e2 : (l.take k).length = k := by simp; omega
 unfold bswL Sp.bsw
 by_cases h1 : i < k
 ·rw [if_pos h1, List.getElem?_append_left (by omega), List.getElem?_take_of_lt h1, List.getElem?_drop, Nat.add_comm]
 ·rw [if_neg h1, List.getElem?_append_right (by omega), e1]
  by_cases h2 : i < 2 * k
  ·rw [if_pos h2, List.getElem?_append_left (by omega), List.getElem?_take_of_lt (by omega)]
  ·rw [if_neg h2, List.getElem?_append_right (by omega), e2, List.getElem?_drop]; congr 1; omega
theorem bswL_length (k : Nat) (l : List Oper) (h : 2 * k ≤ l.length) : (bswL k l).length = l.length := by
 unfold bswL; simp; omega
variable {P : Program} {rd : Option Nat} {wd : Bool}
def drawTwoB (wd : Bool) (k a b : Nat) (ops : Array Oper) : Bool :=
 decide (2 * k ≤ ops.size) && decide (a < b) && ops.toList.all (fun o => o.guard.isNone) && drawOk wd (reord (fun i => i) a b ops) && drawOk wd (reord (bsw k) b a ops) && ranked .any ops (rankOf .any ops) && ranked .text ops (rankOf .text ops) && ranked .gc ops (rankOf .gc ops)
theorem AWp.draw2b {h : Nat} {Q : Exit → St → Prop} {id k a b : Nat} {ops : List Oper} {tm : List AVal} {H : List Blk} (hd : drawTwoB wd k a b ops.toArray = true)
  {l1 l2 : List (AVal × List Blk)} {tm1 tm2 : List AVal} {H1 H2 : List Blk}
  (hr1 : RunD wd P rd ops.toArray ops tm H l1 tm1 H1) (hq1 : Q .normal ⟨tm1, H1⟩)
  (hr2 : RunD wd P rd ops.toArray (bswL k ops) tm H l2 tm2 H2) (hq2 : Q .normal ⟨tm2, H2⟩) : AWp P rd h (.region id ops.toArray true) Q ⟨tm, H⟩ := by
 refine ⟨fun N ι σ a' w h1 h2 h3 h4 => ?_⟩
 simp only [drawTwoB, Bool.and_eq_true, decide_eq_true_eq, List.all_eq_true] at hd
 obtain ⟨⟨⟨⟨⟨⟨⟨hp, hab⟩, hg⟩, k1⟩, k2⟩, g1⟩, g2⟩, g3⟩ := hd
 have hp' : 2 * k ≤ ops.length := by simpa using hp
 have hg1 : ∀ o, o ∈ ops → o.guard = none := fun o ho => by have := hg o (by simpa using ho); simpa using this
 have hg2 : ∀ (i : Nat) o, ops.toArray[i]? = some o → o.guard = none := fun i o ho => hg1 o (List.mem_of_getElem? (by simpa using ho))
 refine wpIn_region_draw fun t => ?_
 obtain ⟨c1, c2⟩ := sched_of g1 g2 g3 (P.follows .mixedOrders) t
 generalize Region.schedule (P.follows .mixedOrders) ops.toArray t = s at *
 have hw : Mono ι σ w H ι σ { w with drawn := w.drawn + 1 } H := ⟨fun _ _ _ h h' => ⟨h, h'⟩, fun _ _ h => h, fun _ tip k h => ⟨tip, k, h, MarkUp.refl _ _ _, .inr ⟨rfl, rfl, fun _ _ u h h' => ⟨h, ⟨u, h'⟩, fun hf => hf⟩⟩⟩⟩
 have hE : Ext σ w σ { w with drawn := w.drawn + 1 } := ⟨rfl, rfl, rfl, Nat.le_refl _, fun _ _ _ h h' => ⟨h, h'⟩, fun _ _ h => ⟨rfl, h⟩, fun _ _ _ h => h, Nat.le_succ _⟩
 have hH : HRel ι σ { w with drawn := w.drawn + 1 } H := by
  have := (SRel.cells (w' := { w with drawn := w.drawn + 1 }) h1 (fun _ => rfl) (fun _ _ h _ _ => h) (fun g => ⟨rfl, rfl, rfl, Nat.le_refl _, fun _ _ _ h h' => ⟨h, h'⟩, fun _ _ _ _ => ⟨rfl, fun _ => rfl⟩, Nat.le_succ _⟩)).heap
  exact this
 have hT := h1.tmps.mono hw
 rcases before_or (a := a) (b := b) (by omega) s [] with hb | hb
 ·have hP := Pos.id ops.toArray.size
  rw [← wpOps_reord (a := a) (b := b) _ _ _ _ hP hg2]
  refine draw_run k1 (hr1.fix _ (sim_reord hP ops (by simp) (fun k _ => by simp)) hg1) (by have := sched_reord hP _ _ c1 hb; simpa using this) (fun i hi => List.mem_map.2 ⟨i, c2 i (by rwa [reord_size] at hi), rfl⟩) hT hH (h2.ext hE) hw hE ?_
  intro ι' σ' a' w' q1 q2 q3 q4 q5
  exact ⟨ι', σ', ⟨tm1, H1⟩, hq1, ⟨q1, q2⟩, q4, q3.take h, by rw [q5]; exact h4.ext q4⟩
 ·have hP := Pos.bsw (k := k) (n := ops.toArray.size) hp
  rw [← wpOps_reord (a := b) (b := a) _ _ _ _ hP hg2]
  refine draw_run k2 (hr2.fix _ (sim_reord hP _ (by rw [bswL_length _ _ hp']; simp) (fun k _ => by rw [bswL_get _ _ _ hp']; simp)) (fun o ho => ?_)) (by have := sched_reord hP _ _ c1 hb; simpa using this) (fun i hi => List.mem_map.2 ⟨bsw k i, c2 _ (hP.lt i (by rwa [reord_size] at hi)), hP.two i⟩) hT hH (h2.ext hE) hw hE ?_
  ·obtain ⟨j, hk⟩ := List.mem_iff_getElem?.1 ho
   rw [bswL_get _ _ _ hp'] at hk
   exact hg1 o (List.mem_of_getElem? hk)
  ·intro ι' σ' a' w' q1 q2 q3 q4 q5
   exact ⟨ι', σ', ⟨tm2, H2⟩, hq2, ⟨q1, q2⟩, q4, q3.take h, by rw [q5]; exact h4.ext q4⟩
theorem AWp.seq_draw2b {h : Nat} {Q : Exit → St → Prop} {id : Nat} {ops : List Oper} {y : Code} {tm : List AVal} {H : List Blk} (k a b : Nat) (hd : drawTwoB wd k a b ops.toArray = true)
  (hv1 : ∀ K : List AVal → List Blk → Prop, (∀ tm' H', AWp P rd h y Q ⟨tm', H'⟩ → K tm' H') → vcOpsD wd P ops.toArray ops tm H K)
  (hv2 : ∀ K : List AVal → List Blk → Prop, (∀ tm' H', AWp P rd h y Q ⟨tm', H'⟩ → K tm' H') → vcOpsD wd P ops.toArray (bswL k ops) tm H K) : AWp P rd h (.seq (.region id ops.toArray true) y) Q ⟨tm, H⟩ := by
 obtain ⟨l, tm', H', h1, h2⟩ := vcOpsD_sound (rd := rd) (hv1 (fun tm' H' => AWp P rd h y Q ⟨tm', H'⟩) (fun _ _ h => h))
 obtain ⟨l2, tm2, H2, h3, h4⟩ := vcOpsD_sound (rd := rd) (hv2 (fun tm' H' => AWp P rd h y Q ⟨tm', H'⟩) (fun _ _ h => h))
 exact AWp.seq (AWp.draw2b hd h1 h2 h3 h4)
end Go.Sp
namespace Go.Sp
open Go.RowKit
structure ACallB (P : Program) (f : FuncId) (args : List TVal) (rows : List (List Tree)) : Prop where
 enters : ∀ args w, (callFunc f args).run P w = .ok (.enter f args) w
 runs : ∀ (S : Nat → Nat → Prop) (w : World) (vs : List Value), vs.length = args.length → (∀ (j : Nat) x u, args[j]? = some x → vs[j]? = some u → TVRel S w x u) →
  Calls P f vs.toArray w fun e w' => ∃ b cap, e = .returned (.slice (some ⟨b, 0, none⟩) rows.length cap) ∧ rows.length ≤ cap ∧ (flatRows rows ≠ [] → w.heap.size ≤ b) ∧ (∃ arr e fz, w'.heap[b]? = some (.cells arr e fz)) ∧
   (∀ (j : Nat) c, (flatRows rows)[j]? = some c → w'.frozen? ⟨b, j, none⟩ = false ∧ ∃ v, w'.cell? ⟨b, j, none⟩ = some v ∧ ∀ ι σ H, CRel ι σ w' H c v) ∧ Below w.heap.size w w' ∧ w.drawn ≤ w'.drawn
end Go.Sp
namespace Go.Sp
theorem Weak.openE {h : Nat} (t k : Nat) {tm : List AVal} {H : List Blk} (ht : tm[t]? = some (.c (.slice [] .exact))) (hh : h ≤ H.length) : Weak h ⟨tm, H⟩ ⟨tm.set t (.c (.slice [] (.chain H.length))), H ++ [.chain 0 k]⟩ := by
 intro ι σ a w hr
 have hl : ι.length = H.length := hr.heap.1
 have M : Mono ι σ w H (ι ++ [0]) σ w (H ++ [.chain 0 k]) := Mono.grow (fun _ _ => rfl) (fun _ _ _ => rfl) _ _
 refine ⟨ι ++ [0], ⟨⟨by rw [hr.tmps.1, List.length_set], fun t' x v h1 h2 => ?_⟩, hr.heap.grow (fun _ _ => rfl) (fun _ _ _ => rfl) ⟨rfl, rfl, rfl, Nat.le_refl _, Nat.le_refl _⟩ _ _ rfl (fun j blk b h1 h2 => ?_)⟩, ?_, ?_⟩
 ·by_cases e : t = t'
  ·subst e
   rw [List.getElem?_set_self (List.getElem?_eq_some_iff.1 ht).1] at h1
   cases h1
   obtain ⟨h3, b, n, rfl⟩ := hr.tmps.2 t _ v ht h2
   have hn : n = 0 := by cases h3 <;> rfl
   subst hn
   exact ⟨.nil _ _, 0, k, by simp, by simp, by cases b with | none => trivial | some b => exact fun h => absurd h (Nat.lt_irrefl 0), fun _ => .inl rfl⟩
  ·rw [List.getElem?_set_ne e] at h1
   exact M.v (hr.tmps.2 t' x v h1 h2)
 ·cases j with
  | zero => simp at h1; subst h1; trivial
  | succ j => simp at h1
 ·rw [List.take_append_of_le_length (by omega)]
 ·simp only; rw [List.take_append_of_le_length hh]
end Go.Sp
