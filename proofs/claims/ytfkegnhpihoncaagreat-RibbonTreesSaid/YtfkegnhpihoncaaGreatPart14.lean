/- A part of the proof. -/
import Derived.Test.YtfkegnhpihoncaaGreatPart13
import Derived.Test.YtfkegnhpihoncaaGreatPart10
import Derived.Test.YtfkegnhpihoncaaGreatLayerC
set_option linter.all false
set_option maxHeartbeats 4000000
set_option maxRecDepth 100000
namespace Go.Proofs.YtfkegnhpihoncaaGreat
open Go.Sp
def genStep (s : List Nat × Int) (p : Int × Int) : List Nat × Int :=
 let a := rootF s.1 12 p.1.toNat
 let b := rootF s.1 12 p.2.toNat
 (s.1.set (max a b) (min a b), if a = b then s.2 + 1 else s.2)
def genS (l : List (Int × Int)) : List Nat × Int := l.foldl genStep (List.range 12, 0)
theorem genS_snoc (l : List (Int × Int)) (p : Int × Int) : genS (l ++ [p]) = genStep (genS l) p := by simp [genS]
theorem genStep_ok {s : List Nat × Int} {p : Int × Int} (h : FOk s.1) (h1 : 0 ≤ p.1 ∧ p.1 < 12) (h2 : 0 ≤ p.2 ∧ p.2 < 12) : FOk (genStep s p).1 := by
 refine ⟨by simp [genStep, h.len], fun i hi => ?_⟩
 simp only [genStep] at hi ⊢
 rw [List.getElem_set]
 split
 ·omega
 ·exact h.le i (by simpa using hi)
theorem genS_ok {l : List (Int × Int)} (h : ∀ p, p ∈ l → (0 ≤ p.1 ∧ p.1 < 12) ∧ (0 ≤ p.2 ∧ p.2 < 12)) : FOk (genS l).1 ∧ 0 ≤ (genS l).2 ∧ (genS l).2 ≤ l.length := by
 have key : ∀ (l : List (Int × Int)) (s : List Nat × Int), FOk s.1 → (∀ p, p ∈ l → (0 ≤ p.1 ∧ p.1 < 12) ∧ (0 ≤ p.2 ∧ p.2 < 12)) → FOk (l.foldl genStep s).1 ∧ s.2 ≤ (l.foldl genStep s).2 ∧ (l.foldl genStep s).2 ≤ s.2 + l.length := by
  intro l
  induction l with
  | nil => intro s hs _; simp; exact hs
  | cons p l ih =>
   intro s hs hp
   have hp1 := hp p (by simp)
   obtain ⟨q1, q2, q3⟩ := ih (genStep s p) (genStep_ok hs hp1.1 hp1.2) fun q hq => hp q (by simp [hq])
   refine ⟨q1, ?_, ?_⟩
   ·refine Int.le_trans ?_ q2; simp only [genStep]; split <;> omega
   ·refine Int.le_trans q3 ?_; simp only [genStep, List.length_cons]; split <;> omega
 have := key l (List.range 12, 0) ⟨by simp, fun i hi => by simp⟩ h
 unfold genS
 simpa using this
theorem fC_set (F : List Nat) (i n : Nat) : setMany (fC F) i [.int .i64 (n : Int)] = fC (F.set i n) := by
 simp only [setMany, fC]
 rw [List.map_set]
theorem fC_set2 (F : List Nat) (i n : Nat) : (fC F).set i (.int .i64 (n : Int)) = fC (F.set i n) := by
 simp only [fC]
 rw [List.map_set]
theorem fC_len (F : List Nat) : (fC F).length = F.length := by simp [fC]
theorem endsL_mem {es : List E} {p : Int × Int} (h : p ∈ endsL es) : ∃ e, e ∈ es ∧ p = (e.a, e.b) := by
 unfold endsL at h
 obtain ⟨e, he, hp⟩ := List.mem_flatMap.1 h
 exact ⟨e, he, (List.mem_replicate.1 hp).2⟩
theorem ends_range {g : G} (hc : checkG g = 0) {p : Int × Int} (h : p ∈ endsL g.es) : (0 ≤ p.1 ∧ p.1 < g.n) ∧ (0 ≤ p.2 ∧ p.2 < g.n) := by
 obtain ⟨e, he, rfl⟩ := endsL_mem h
 have := (checkG_zero.1 hc).2.1 e he
 unfold okE at this
 simp only; omega
theorem mapM_fT (F : List Nat) : (fC F).mapM toTree0 = some (fT F) := by
 induction F with
 | nil => rfl
 | cons x xs ih =>
  simp only [fC, fT, List.map_cons, List.mapM_cons, toTree0] at ih ⊢
  rw [ih]; rfl
def initF (i : Nat) : List Nat := List.range i ++ List.replicate (12 - i) 0
theorem initF_set {i : Nat} (h : i < 12) : (initF i).set i i = initF (i + 1) := by
 unfold initF
 rw [show 12 - i = (12 - (i + 1)) + 1 by omega, List.replicate_succ, List.range_succ]
 rw [List.set_append_right _ _ (by simp)]
 simp
theorem initF_len {i : Nat} (h : i ≤ 12) : (initF i).length = 12 := by unfold initF; simp; omega
theorem initF_12 : initF 12 = List.range 12 := by unfold initF; simp
def numI (L : List (Int × Int)) : List Int := tabI L.length fun e => (((List.range L.length).filter fun f => decide (ltN L f e)).length : Int)
structure NOrd (L : List (Int × Int)) (zs : List Nat) : Prop where
 p : zs.Perm (List.range L.length)
 s : zs.Pairwise (ltN L)
theorem NOrd.pos {L : List (Int × Int)} {zs : List Nat} (h : NOrd L zs) {i e : Nat} (he : zs[i]? = some e) : ((List.range L.length).filter fun f => decide (ltN L f e)).length = i := by
 rw [← (h.p.filter _).length_eq]
 obtain ⟨hi, e1⟩ := List.getElem?_eq_some_iff.1 he
 have hs := h.s
 rw [List.pairwise_iff_getElem] at hs
 have hcut : zs = zs.take i ++ zs.drop i := (List.take_append_drop i zs).symm
 rw [hcut, List.filter_append]
 have h1 : (zs.take i).filter (fun f => decide (ltN L f e)) = zs.take i := by
  rw [List.filter_eq_self]
  intro f hf
  obtain ⟨j, hj, rfl⟩ := List.mem_iff_getElem.1 hf
  have hj' : j < i := by have := hj; rw [List.length_take] at this; omega
  rw [List.getElem_take, decide_eq_true_eq, ← e1]
  exact hs j i (by omega) hi hj'
 have h2 : (zs.drop i).filter (fun f => decide (ltN L f e)) = [] := by
  rw [List.filter_eq_nil_iff]
  intro f hf
  obtain ⟨j, hj, rfl⟩ := List.mem_iff_getElem.1 hf
  rw [List.getElem_drop, decide_eq_true_eq, ← e1]
  by_cases e0 : j = 0
  ·subst e0; simp only [Nat.add_zero]; unfold ltN; omega
  ·have hj' : i + j < zs.length := by rw [List.length_drop] at hj; omega
   have := hs i (i + j) hi hj' (by omega)
   unfold ltN at *; omega
 rw [h1, h2, List.append_nil, List.length_take]; omega
theorem NOrd.len {L : List (Int × Int)} {zs : List Nat} (h : NOrd L zs) : zs.length = L.length := by rw [h.p.length_eq]; simp
theorem NOrd.lt {L : List (Int × Int)} {zs : List Nat} (h : NOrd L zs) {i e : Nat} (he : zs[i]? = some e) : e < L.length := by
 have := h.p.mem_iff.1 (List.mem_of_getElem? he)
 exact List.mem_range.1 this
def numK (L : List (Int × Int)) (zs : List Nat) (k e : Nat) : Int := if e ∈ zs.take k then (((List.range L.length).filter fun f => decide (ltN L f e)).length : Int) else 0
theorem numK_step {L : List (Int × Int)} {zs : List Nat} (h : NOrd L zs) {k e : Nat} (he : zs[k]? = some e) : (tabI L.length (numK L zs k)).set e (k : Int) = tabI L.length (numK L zs (k + 1)) := by
 rw [tabI_set _ _ (h.lt he)]
 refine tabI_congr fun j hj => ?_
 unfold numK
 rw [take_snoc he]
 by_cases e1 : j = e
 ·subst e1; rw [if_pos rfl, if_pos (by simp), h.pos he]
 ·rw [if_neg e1]
  by_cases h1 : j ∈ zs.take k
  ·rw [if_pos h1, if_pos (by simp [h1])]
  ·rw [if_neg h1, if_neg (by simp [h1, e1])]
theorem numK_all {L : List (Int × Int)} {zs : List Nat} (h : NOrd L zs) : tabI L.length (numK L zs zs.length) = numI L := by
 refine tabI_congr fun j hj => ?_
 unfold numK
 rw [List.take_length, if_pos (h.p.mem_iff.2 (List.mem_range.2 hj))]
theorem numK_zero (L : List (Int × Int)) (zs : List Nat) : List.replicate L.length (0 : Int) = tabI L.length (numK L zs 0) := by
 rw [tabI_rep]
 refine tabI_congr fun j hj => ?_
 unfold numK
 rw [List.take_zero, if_neg (by simp)]
def ordK (m k : Nat) : List Int := tabI m fun i => if i < k then (i : Int) else 0
theorem ordK_step {m k : Nat} (hk : k < m) : (ordK m k).set k (k : Int) = ordK m (k + 1) := by
 unfold ordK
 rw [tabI_set _ _ hk]
 refine tabI_congr fun j hj => ?_
 by_cases e : j = k
 ·subst e; rw [if_pos rfl, if_pos (by omega)]
 ·rw [if_neg e]
  by_cases h1 : j < k
  ·rw [if_pos h1, if_pos (by omega)]
  ·rw [if_neg h1, if_neg (by omega)]
theorem ordK_zero (m : Nat) : List.replicate m (0 : Int) = ordK m 0 := by
 rw [tabI_rep]; unfold ordK
 exact tabI_congr fun j _ => by rw [if_neg (by omega)]
theorem ordK_all (m : Nat) : iC (ordK m m) = flatRows (cellRows cellF (List.finRange m)) := by
 have e : cellRows cellF (List.finRange m) = iRows (ordK m m) := by
  apply List.ext_getElem?
  intro i
  unfold cellRows iRows ordK
  by_cases hi : i < m
  ·have e1 : (List.finRange m)[i]? = some ⟨i, hi⟩ := by rw [List.getElem?_eq_getElem (by simpa using hi)]; simp
   rw [List.getElem?_map, e1, List.getElem?_map, tabI_get _ hi]
   simp [cellF, hi]
  ·rw [List.getElem?_eq_none (by simpa using hi), List.getElem?_eq_none (by simp [tabI_len]; omega)]
 rw [e, flat_iRows]
theorem sortN_ord (L : List (Int × Int)) (h0 : 0 < L.length) : ∃ zs, NOrd L zs ∧ flatRows (cellRows cellF (@sortL (Fin L.length) ⟨⟨0, h0⟩⟩ (fun x y => cfN L x.val y.val) (List.finRange L.length))) = iC (zs.map fun x : Nat => (x : Int)) := by
 obtain ⟨h1, h2⟩ := @sortL_spec (Fin L.length) ⟨⟨0, h0⟩⟩ _ (swoN L L.length) (List.finRange L.length)
 generalize (@sortL (Fin L.length) ⟨⟨0, h0⟩⟩ (fun x y => cfN L x.val y.val) (List.finRange L.length)) = ys at *
 have hpm : (ys.map fun x => x.val).Perm (List.range L.length) := by
  have := h1.map fun x : Fin L.length => x.val
  have e : (List.finRange L.length).map (fun x => x.val) = List.range L.length := by
   apply List.ext_getElem?
   intro i
   by_cases hi : i < L.length
   ·simp [hi]
   ·rw [List.getElem?_eq_none (by simpa using hi), List.getElem?_eq_none (by simpa using hi)]
  rwa [e] at this
 refine ⟨ys.map fun x => x.val, ⟨hpm, ?_⟩, ?_⟩
 ·have hnd : (ys.map fun x => x.val).Nodup := hpm.nodup_iff.2 List.nodup_range
  rw [List.Nodup, List.pairwise_iff_getElem] at hnd
  rw [List.pairwise_iff_getElem]
  intro i j hi hj hij
  have hi' : i < ys.length := by simpa using hi
  have hj' : j < ys.length := by simpa using hj
  have h3 := h2 i j _ _ hij (List.getElem?_eq_getElem hi') (List.getElem?_eq_getElem hj')
  have h4 := hnd i j hi hj hij
  rw [← Bool.not_eq_true] at h3
  unfold Go.Proofs.ltOf at h3
  rw [decide_eq_true_eq, cfN_lt] at h3
  simp only [List.getElem_map] at h4 ⊢
  unfold ltN at *; omega
 ·have e : cellRows cellF ys = iRows ((ys.map fun x => x.val).map fun x : Nat => (x : Int)) := by
   simp [cellRows, iRows, cellF]
  rw [e, flat_iRows]
theorem idxI_least {l : List Int} (h : l ≠ []) : idxI l (l.getD (leastN l) 0) = leastN l := by
 have h1 := leastN_lt h
 obtain ⟨_, _, h3⟩ := leastGo_spec l (l.length - 1)
 refine idxI_hit (fun j hj x hx => ?_) h1 (by rw [List.getD_eq_getElem?_getD, List.getElem?_eq_getElem h1]; rfl)
 have := h3 j hj
 rw [List.getD_eq_getElem?_getD (i := j), hx] at this
 simp only [Option.getD_some] at this
 unfold leastN; omega
theorem turned_ok (l : List Int) (hl : l.length < 2 ^ 30) : ACall Tryz.prog 60 [tints l] (tints (turnL l)) := by
 refine ACall.of_body Tryz.func60 rfl (by kernel_rfl) ?_
 simp only [entry, Tryz.ntmps60, tints]
 refine zU ?_
 by_cases h : l = []
 ·subst h
  refine zR (zc @iRows_len trivial) trivial trivial ?_
  simp [Rets, aret, Blk.cells, ty, Tryz.results60, ares, toT1, toT, borrow, borrow0, capCell, toTree0, tints, turnL_nil, iRows]
 ·have hp : 0 < l.length := List.length_pos_iff.2 h
  have hpI : ¬ ((l.length : Int) = 0) := by omega
  have hk := leastN_lt h
  have hkI : (leastN l : Int) ≤ l.length := by omega
  have hM := Min_ok l h (by omega)
  have hI := Index_ok l (l.getD (leastN l) 0) (by omega)
  rw [idxI_least h] at hI
  have hC := Concat_ok [l.drop (leastN l), l.take (leastN l)] (by simp; omega) (by simp; omega) (by simp)
  have hf : [l.drop (leastN l), l.take (leastN l)].flatten = turnL l := by simp [turnL]
  rw [hf] at hC
  simp only [tlists, llRows, List.map_cons, List.map_nil] at hC
  generalize l.getD (leastN l) 0 = m at *
  generalize turnL l = T at *
  generalize leastN l = k at *
  have hd : (iRows l).drop k = iRows (l.drop k) := iRows_drop l k
  have ht : (iRows l).take k = iRows (l.take k) := iRows_take l k
  have hta : (iRows l).take l.length = iRows l := List.take_of_length_le (by rw [iRows_len]; exact Nat.le_refl _)
  repeat' (first|((first|(refine zT ?_;intro K' hK')|(refine zG ?_ ?_<;>(try refine zH ?_)<;>intro hguard<;>(try exact zX)<;>try intro K' hK'))<;>((try simp +contextual only [go_sem, hpI, hkI, iRows_len, Int.toNat_natCast, Int.toNat_zero, hd, ht, hta, Int.ofNat_lt, Option.isSome_none, false_and, not_false_eq_true, List.drop_zero, chunks, List.range, List.range.loop]);(repeat' first|(with_reducible refine hK' _ _ ?_;clear hK' K')|((with_reducible first|refine zK hM ?_|refine zK hI ?_|refine zK hC ?_);try simp +contextual only [go_sem, hpI, hkI, iRows_len, Int.toNat_natCast, Int.toNat_zero, hd, ht, hta, Int.ofNat_lt, Option.isSome_none, false_and, not_false_eq_true, List.drop_zero, chunks, List.range, List.range.loop])|(with_reducible exact iRows_k' (by assumption))|exact zY|with_reducible refine And.intro ?_ ?_|(with_reducible intro hpath;try exact zP)|(refine hK' _ _ ?_;clear hK' K')|fail);try refine zS ?_))|(refine zE ?_;refine hK _ _ ?_;clear hK K)|(refine zN ?_;try refine zS ?_)|refine zA ?_|(refine zB ?_;intro K hK)|(refine zC ?_ ?_<;>(try refine zH ?_)<;>intro hcond<;>try exact zX)|fail)
  simp [Rets, aret, Blk.cells, ty, Tryz.results60, ares, toT1, toT, borrow, borrow0, capCell, toTree0, tints]
end Go.Proofs.YtfkegnhpihoncaaGreat
