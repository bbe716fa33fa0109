/- A part of the proof: contracts of functions of the program, and plain lemmas. -/
import Derived.Test.YtfkegnhpihoncaaGreatPart04
import Derived.Test.YtfkegnhpihoncaaGreatPart02
import Derived.Test.YtfkegnhpihoncaaGreatLayerC
import Derived.Shelf.SlSortCmp.NoneTotal
import Derived.Test.YtfkegnhpihoncaaGreatPart06
import Derived.Test.YtfkegnhpihoncaaGreatPart05
set_option linter.all false
namespace Go.Proofs.YtfkegnhpihoncaaGreat
open Go.Sp Go.RowKit
open Go.Sort (SWO)
set_option linter.unusedSimpArgs false
set_option linter.unusedVariables false
set_option maxHeartbeats 4000000
set_option maxRecDepth 100000
def mnL (L : List (Int × Int)) (a : Nat) : Int := min (L.getD a (0, 0)).1 (L.getD a (0, 0)).2
def mxL (L : List (Int × Int)) (a : Nat) : Int := max (L.getD a (0, 0)).1 (L.getD a (0, 0)).2
def cfN (L : List (Int × Int)) (a b : Nat) : Int := orI [cmpI (mnL L a) (mnL L b), cmpI (mxL L a) (mxL L b), cmpI a b]
def ltN (L : List (Int × Int)) (a b : Nat) : Prop := mnL L a < mnL L b ∨ (mnL L a = mnL L b ∧ (mxL L a < mxL L b ∨ (mxL L a = mxL L b ∧ a < b)))
instance ltN.dec (L : List (Int × Int)) (a b : Nat) : Decidable (ltN L a b) := by unfold ltN; infer_instance
theorem cfN_lt (L : List (Int × Int)) (a b : Nat) : cfN L a b < 0 ↔ ltN L a b := by
  unfold cfN orI orI orI cmpI ltN
  (repeat' split) <;> simp_all [orI] <;> omega
theorem closN_ok (L : List (Int × Int)) (hl : L.length < 2 ^ 40) (a b : Nat) (ha : a < L.length) (hb : b < L.length) : ACall Tryz.prog 101 [tint a, tint b, .t (.rptr [.slice (pRows L)])] (tint (cfN L a b)) := by
  have ea := List.getElem?_eq_getElem ha
  have eb := List.getElem?_eq_getElem hb
  have ra := pRows_get ea
  have rb := pRows_get eb
  have hmna : mnL L a = min L[a].1 L[a].2 := by unfold mnL; rw [List.getD_eq_getElem?_getD, ea]; rfl
  have hmxa : mxL L a = max L[a].1 L[a].2 := by unfold mxL; rw [List.getD_eq_getElem?_getD, ea]; rfl
  have hmnb : mnL L b = min L[b].1 L[b].2 := by unfold mnL; rw [List.getD_eq_getElem?_getD, eb]; rfl
  have hmxb : mxL L b = max L[b].1 L[b].2 := by unfold mxL; rw [List.getD_eq_getElem?_getD, eb]; rfl
  have haI : (a : Int) < L.length := by omega
  have hbI : (b : Int) < L.length := by omega
  have hO := Or_ok [cmpI (mnL L a) (mnL L b), cmpI (mxL L a) (mxL L b), cmpI a b] (by simp)
  have c1 := Compare_ok (mnL L a) (mnL L b)
  have c2 := Compare_ok (mxL L a) (mxL L b)
  have c3 := Compare_ok a b
  unfold cfN
  generalize L[a] = p at *
  generalize L[b] = q at *
  rw [hmna, hmnb] at c1 hO ⊢
  rw [hmxa, hmxb] at c2 hO ⊢
  generalize cmpI (min p.1 p.2) (min q.1 q.2) = x at *
  generalize cmpI (max p.1 p.2) (max q.1 q.2) = y at *
  generalize cmpI (a : Int) (b : Int) = z at *
  simp only [ints, List.map_cons, List.map_nil] at hO
  generalize orI [x, y, z] = o at *
  refine ACall.of_body Tryz.func101 rfl (by kernel_rfl) ?_
  simp only [entry, Tryz.ntmps101, tint]
  refine zU ?_
  repeat' (first|((first|(refine zT ?_;intro K' hK')|(refine zG ?_ ?_<;>(try refine zH ?_)<;>intro hguard<;>(try exact zX)<;>try intro K' hK'))<;>((try simp +contextual only [go_sem, haI, hbI, ra, rb, pRows_len, Int.toNat_natCast, Int.toNat_zero, Int.toNat_one, chunks, List.range, List.range.loop]);(repeat' first|(with_reducible refine hK' _ _ ?_;clear hK' K')|((with_reducible first|refine zK c1 ?_|refine zK c2 ?_|refine zK c3 ?_|refine zK hO ?_);try simp +contextual only [go_sem, haI, hbI, ra, rb, pRows_len, Int.toNat_natCast, Int.toNat_zero, Int.toNat_one, chunks, List.range, List.range.loop])|exact zY|with_reducible refine And.intro ?_ ?_|(with_reducible intro hpath;try exact zP)|(refine hK' _ _ ?_;clear hK' K')|fail);try refine zS ?_))|(refine zE ?_;refine hK _ _ ?_;clear hK K)|(refine zN ?_;try refine zS ?_)|refine zA ?_|(refine zB ?_;intro K hK)|(refine zC ?_ ?_<;>(try refine zH ?_)<;>intro hcond<;>try exact zX)|fail)
  simp [Rets, aret, Blk.cells, ty, Tryz.results101, ares, toT1, toT, borrow, borrow0, capCell, toTree0, tint]
theorem swoN (L : List (Int × Int)) (m : Nat) : SWO (Go.Proofs.ltOf fun x y : Fin m => cfN L x.val y.val) where
  irrefl x := by
    rw [← Bool.not_eq_true]
    unfold Go.Proofs.ltOf
    rw [decide_eq_true_eq, cfN_lt]; unfold ltN; omega
  trans x y z h1 h2 := by
    unfold Go.Proofs.ltOf at *
    rw [decide_eq_true_eq, cfN_lt] at *; unfold ltN at *; omega
  ntrans x y z h1 h2 := by
    rw [← Bool.not_eq_true] at *
    unfold Go.Proofs.ltOf at *
    rw [decide_eq_true_eq, cfN_lt] at *; unfold ltN at *; omega
theorem enterSN : ∀ args w, (callFunc 100 args).run Tryz.prog w = .ok (.enter 100 args) w := Go.Proofs.enters_of Tryz.func100 (by kernel_rfl) rfl
def cellF {m : Nat} (x : Fin m) : Tree := .int .i64 (x.val : Int)
theorem SortN_ok (L : List (Int × Int)) (hl : L.length < 2 ^ 40) (h0 : 0 < L.length) (xs : List (Fin L.length)) (hx : xs.length < 2 ^ 40) {H : List Blk} {id cap : Nat} (hid : H[id]? = some (.box (flatRows (cellRows cellF xs)))) :
    ACallH Tryz.prog 100 H [.c (.ref id 1 0 xs.length cap), .c (.fn 101 [.tree (.rptr [.slice (pRows L)])])]
      (H.set id (.box (flatRows (cellRows cellF (@sortL (Fin L.length) ⟨⟨0, h0⟩⟩ (fun x y => cfN L x.val y.val) xs))))) (.tup []) := by
  exact @SortFunc1_call (Fin L.length) ⟨⟨0, h0⟩⟩ cellF _ _ laySortC (fun _ => rfl) (fun x y => cfN L x.val y.val) (swoN L L.length) 101 [.rptr [.slice (pRows L)]] (fun x y => closN_ok L hl x.val y.val x.isLt y.isLt) enterSN xs (by omega) H id cap hid
theorem SortN_none {H : List Blk} {id cap : Nat} {v : AVal} (hid : H[id]? = some (.box (iC []))) : ACallH Tryz.prog 100 H [.c (.ref id 1 0 0 cap), v] H (.tup []) := by
  refine ⟨enterSN, fun ι σ w vs hH hl hv => ?_⟩
  match vs, hl with
  | [v0, v1], _ =>
  have h0 : CRel ι σ w H (.ref id 1 0 0 cap) v0 := hv 0 _ v0 rfl rfl
  obtain ⟨b, hi, cap', _, rfl⟩ := h0
  refine (Go.Proofs.AnyF.slices_SortFunc_none { laySortC with } _ cap' v1 w).mono ?_
  rintro e w' ⟨rfl, rfl⟩
  exact ⟨_, ι, σ, rfl, ⟨#[], rfl, rfl, by simp⟩, hH, Mono.refl .., Ext.refl ..⟩
end Go.Proofs.YtfkegnhpihoncaaGreat
set_option linter.all false
namespace Go.Proofs.YtfkegnhpihoncaaGreat
open Go.Sp
set_option linter.unusedSimpArgs false
set_option linter.unusedVariables false
set_option maxHeartbeats 4000000
set_option maxRecDepth 100000
def numI (L : List (Int × Int)) : List Int := tabI L.length fun e => (((List.range L.length).filter fun f => decide (ltN L f e)).length : Int)
structure NOrd (L : List (Int × Int)) (zs : List Nat) : Prop where
  p : zs.Perm (List.range L.length)
  s : zs.Pairwise (ltN L)
theorem NOrd.pos {L : List (Int × Int)} {zs : List Nat} (h : NOrd L zs) {i e : Nat} (he : zs[i]? = some e) : ((List.range L.length).filter fun f => decide (ltN L f e)).length = i := by
  rw [← (h.p.filter _).length_eq]
  obtain ⟨hi, e1⟩ := List.getElem?_eq_some_iff.1 he
  have hs := h.s
  rw [List.pairwise_iff_getElem] at hs
  have hcut : zs = zs.take i ++ zs.drop i := (List.take_append_drop i zs).symm
  rw [hcut, List.filter_append]
  have h1 : (zs.take i).filter (fun f => decide (ltN L f e)) = zs.take i := by
    rw [List.filter_eq_self]
    intro f hf
    obtain ⟨j, hj, rfl⟩ := List.mem_iff_getElem.1 hf
    have hj' : j < i := by have := hj; rw [List.length_take] at this; omega
    rw [List.getElem_take, decide_eq_true_eq, ← e1]
    exact hs j i (by omega) hi hj'
  have h2 : (zs.drop i).filter (fun f => decide (ltN L f e)) = [] := by
    rw [List.filter_eq_nil_iff]
    intro f hf
    obtain ⟨j, hj, rfl⟩ := List.mem_iff_getElem.1 hf
    rw [List.getElem_drop, decide_eq_true_eq, ← e1]
    by_cases e0 : j = 0
    · subst e0; simp only [Nat.add_zero]; unfold ltN; omega
    · have hj' : i + j < zs.length := by rw [List.length_drop] at hj; omega
      have := hs i (i + j) hi hj' (by omega)
      unfold ltN at *; omega
  rw [h1, h2, List.append_nil, List.length_take]; omega
theorem NOrd.len {L : List (Int × Int)} {zs : List Nat} (h : NOrd L zs) : zs.length = L.length := by rw [h.p.length_eq]; simp
theorem NOrd.lt {L : List (Int × Int)} {zs : List Nat} (h : NOrd L zs) {i e : Nat} (he : zs[i]? = some e) : e < L.length := by
  have := h.p.mem_iff.1 (List.mem_of_getElem? he)
  exact List.mem_range.1 this
theorem NOrd.nd {L : List (Int × Int)} {zs : List Nat} (h : NOrd L zs) : zs.Nodup := h.p.nodup_iff.2 List.nodup_range
def numK (L : List (Int × Int)) (zs : List Nat) (k e : Nat) : Int := if e ∈ zs.take k then (((List.range L.length).filter fun f => decide (ltN L f e)).length : Int) else 0
theorem numK_step {L : List (Int × Int)} {zs : List Nat} (h : NOrd L zs) {k e : Nat} (he : zs[k]? = some e) : (tabI L.length (numK L zs k)).set e (k : Int) = tabI L.length (numK L zs (k + 1)) := by
  rw [tabI_set _ _ (h.lt he)]
  refine tabI_congr fun j hj => ?_
  unfold numK
  rw [take_snoc he]
  by_cases e1 : j = e
  · subst e1; rw [if_pos rfl, if_pos (by simp), h.pos he]
  · rw [if_neg e1]
    by_cases h1 : j ∈ zs.take k
    · rw [if_pos h1, if_pos (by simp [h1])]
    · rw [if_neg h1, if_neg (by simp [h1, e1])]
theorem numK_all {L : List (Int × Int)} {zs : List Nat} (h : NOrd L zs) : tabI L.length (numK L zs zs.length) = numI L := by
  refine tabI_congr fun j hj => ?_
  unfold numK
  rw [List.take_length, if_pos (h.p.mem_iff.2 (List.mem_range.2 hj))]
theorem numK_zero (L : List (Int × Int)) (zs : List Nat) : List.replicate L.length (0 : Int) = tabI L.length (numK L zs 0) := by
  rw [tabI_rep]
  refine tabI_congr fun j hj => ?_
  unfold numK
  rw [List.take_zero, if_neg (by simp)]
def ordK (m k : Nat) : List Int := tabI m fun i => if i < k then (i : Int) else 0
theorem ordK_step {m k : Nat} (hk : k < m) : (ordK m k).set k (k : Int) = ordK m (k + 1) := by
  unfold ordK
  rw [tabI_set _ _ hk]
  refine tabI_congr fun j hj => ?_
  by_cases e : j = k
  · subst e; rw [if_pos rfl, if_pos (by omega)]
  · rw [if_neg e]
    by_cases h1 : j < k
    · rw [if_pos h1, if_pos (by omega)]
    · rw [if_neg h1, if_neg (by omega)]
theorem ordK_zero (m : Nat) : List.replicate m (0 : Int) = ordK m 0 := by
  rw [tabI_rep]; unfold ordK
  exact tabI_congr fun j _ => by rw [if_neg (by omega)]
theorem ordK_all (m : Nat) : iC (ordK m m) = flatRows (cellRows cellF (List.finRange m)) := by
  have e : cellRows cellF (List.finRange m) = iRows (ordK m m) := by
    apply List.ext_getElem?
    intro i
    unfold cellRows iRows ordK
    by_cases hi : i < m
    · have e1 : (List.finRange m)[i]? = some ⟨i, hi⟩ := by rw [List.getElem?_eq_getElem (by simpa using hi)]; simp
      rw [List.getElem?_map, e1, List.getElem?_map, tabI_get _ hi]
      simp [cellF, hi]
    · rw [List.getElem?_eq_none (by simpa using hi), List.getElem?_eq_none (by simp [tabI_len]; omega)]
  rw [e, flat_iRows]
theorem sortN_ord (L : List (Int × Int)) (h0 : 0 < L.length) : ∃ zs, NOrd L zs ∧ flatRows (cellRows cellF (@sortL (Fin L.length) ⟨⟨0, h0⟩⟩ (fun x y => cfN L x.val y.val) (List.finRange L.length))) = iC (zs.map fun x : Nat => (x : Int)) := by
  obtain ⟨h1, h2⟩ := @sortL_spec (Fin L.length) ⟨⟨0, h0⟩⟩ _ (swoN L L.length) (List.finRange L.length)
  generalize (@sortL (Fin L.length) ⟨⟨0, h0⟩⟩ (fun x y => cfN L x.val y.val) (List.finRange L.length)) = ys at *
  have hpm : (ys.map fun x => x.val).Perm (List.range L.length) := by
    have := h1.map fun x : Fin L.length => x.val
    have e : (List.finRange L.length).map (fun x => x.val) = List.range L.length := by
      apply List.ext_getElem?
      intro i
      by_cases hi : i < L.length
      · simp [hi]
      · rw [List.getElem?_eq_none (by simpa using hi), List.getElem?_eq_none (by simpa using hi)]
    rwa [e] at this
  refine ⟨ys.map fun x => x.val, ⟨hpm, ?_⟩, ?_⟩
  · have hnd : (ys.map fun x => x.val).Nodup := hpm.nodup_iff.2 List.nodup_range
    rw [List.Nodup, List.pairwise_iff_getElem] at hnd
    rw [List.pairwise_iff_getElem]
    intro i j hi hj hij
    have hi' : i < ys.length := by simpa using hi
    have hj' : j < ys.length := by simpa using hj
    have h3 := h2 i j _ _ hij (List.getElem?_eq_getElem hi') (List.getElem?_eq_getElem hj')
    have h4 := hnd i j hi hj hij
    rw [← Bool.not_eq_true] at h3
    unfold Go.Proofs.ltOf at h3
    rw [decide_eq_true_eq, cfN_lt] at h3
    simp only [List.getElem_map] at h4 ⊢
    unfold ltN at *; omega
  · have e : cellRows cellF ys = iRows ((ys.map fun x => x.val).map fun x : Nat => (x : Int)) := by
      simp [cellRows, iRows, cellF]
    rw [e, flat_iRows]
end Go.Proofs.YtfkegnhpihoncaaGreat
set_option linter.all false
namespace Go.Proofs.YtfkegnhpihoncaaGreat
open Go.Sp
set_option linter.unusedSimpArgs false
set_option linter.unusedVariables false
set_option maxHeartbeats 4000000
set_option maxRecDepth 100000
theorem sortN_any (L : List (Int × Int)) (hl : L.length ≤ 2000) : ∃ zs, NOrd L zs ∧ ACallH Tryz.prog 100 [.ro [.slice (pRows L)], .box (iC (ordK L.length L.length))] [.c (.ref 1 1 0 L.length L.length), .c (.fn 101 [.tree (.rptr [.slice (pRows L)])])]
    [.ro [.slice (pRows L)], .box (iC (zs.map fun x : Nat => (x : Int)))] (.tup []) := by
  by_cases h0 : L.length = 0
  · have hL : L = [] := List.length_eq_zero_iff.1 h0
    subst hL
    exact ⟨[], ⟨List.Perm.refl _, List.Pairwise.nil⟩, SortN_none rfl⟩
  · have hp : 0 < L.length := by omega
    obtain ⟨zs, hz, he⟩ := sortN_ord L hp
    refine ⟨zs, hz, ?_⟩
    have hS := SortN_ok L (by omega) hp (List.finRange L.length) (by simp; omega) (H := [.ro [.slice (pRows L)], .box (iC (ordK L.length L.length))]) (id := 1) (cap := L.length) (by rw [ordK_all]; rfl)
    rw [he, List.length_finRange] at hS
    exact hS
theorem numbers_ok (L : List (Int × Int)) (hl : L.length ≤ 2000) : ACall Tryz.prog 58 [tpairs L] (tints (numI L)) := by
  obtain ⟨zs, hz, hS⟩ := sortN_any L hl
  have hzl := hz.len
  refine ACall.of_body Tryz.func58 rfl (by kernel_rfl) ?_
  simp only [entry, Tryz.ntmps58, tpairs]
  refine zU ?_
  repeat' (first|((first|(refine zT ?_;intro K' hK')|(refine zG ?_ ?_<;>(try refine zH ?_)<;>intro hguard<;>(try exact zX)<;>try intro K' hK'))<;>((try simp +contextual only [go_sem, made_ints, pRows_len, Int.toNat_natCast]);(repeat' first|(with_reducible refine hK' _ _ ?_;clear hK' K')|exact zY|with_reducible refine And.intro ?_ ?_|(with_reducible intro hpath;try exact zP)|(refine hK' _ _ ?_;clear hK' K')|fail);try refine zS ?_))|(refine zE ?_;refine hK _ _ ?_;clear hK K)|(refine zN ?_;try refine zS ?_)|refine zA ?_|(refine zB ?_;intro K hK)|(refine zC ?_ ?_<;>(try refine zH ?_)<;>intro hcond<;>try exact zX)|fail)
  rw [ordK_zero]
  refine AWp.loopx (α:=Nat) (fun k=>(⟨.c .any :: .c (.ptr 0 0) :: .c .any :: .c (.ref 1 1 0 L.length L.length) :: .c .any :: .c .any :: .c .any :: .c .any :: .c .any :: .c .any :: .c .any :: .c .any :: .c (.int .i64 (L.length : Int)) :: .c (.int .i64 (k : Int)) :: .c .any :: .c .any :: .c .any :: .c .any :: .c .any :: .c .any :: .c .any :: .c .any :: .c .any :: .c .any :: .c .any :: .c .any :: .c .any :: .c .any :: .c .any :: .c .any :: .c .any :: .c .any :: .c .any :: .c .any :: .c .any :: .c .any :: .c .any :: .c .any :: .c .any :: .c .any :: [],[.box [.slice (pRows L) .none], .box (iC (ordK L.length k))]⟩:St)) (fun k=>k ≤ L.length) (fun k=>L.length - k) (0) (Weak.headL 2 40 [1, 3, 12, 13] (by (repeat' (first | exact valsIn_nil _ | exact blksIn_nil _ | exact cellsIn_nil _ | refine And.intro ?_ ?_ | refine valsIn_cons ?_ ?_ | refine blksIn_cons ?_ ?_ | refine cellsIn_cons ?_ ?_ | exact True.intro | exact iC_in | (show _ < _; omega) | exact cellsIn_map (fun _ => True.intro) | (intro c hc; cases hc; done) | (intro c hc; simp only [List.mem_cons, List.not_mem_nil, or_false] at hc; subst hc; exact True.intro) | (intro c hc; simp only [List.mem_cons, List.not_mem_nil, or_false] at hc; rcases hc with rfl | rfl <;> exact True.intro))))) ?_ (fun k hI=>?_)
  · exact Nat.zero_le _
  · have hk : k ≤ L.length := hI
    clear hI
    by_cases hlt : k < L.length
    · have hltI : (k : Int) < L.length := by omega
      have hst := ordK_step hlt
      have hol : (ordK L.length k).length = L.length := tabI_len _ _
      generalize hO2 : ordK L.length (k + 1) = O2 at *
      generalize ordK L.length k = O1 at *
      repeat' (first|((first|(refine zT ?_;intro K' hK')|(refine zG ?_ ?_<;>(try refine zH ?_)<;>intro hguard<;>(try exact zX)<;>try intro K' hK'))<;>((try simp +contextual only [go_sem, hltI, Int.toNat_natCast, Nat.mul_one, iC_set, hst, iC_len, hol]);(repeat' first|(with_reducible refine hK' _ _ ?_;clear hK' K')|exact zY|with_reducible refine And.intro ?_ ?_|(with_reducible intro hpath;try exact zP)|(refine hK' _ _ ?_;clear hK' K')|fail);try refine zS ?_))|(refine zE ?_;refine hK _ _ ?_;clear hK K)|(refine zN ?_;try refine zS ?_)|refine zA ?_|(refine zB ?_;intro K hK)|(refine zC ?_ ?_<;>(try refine zH ?_)<;>intro hcond<;>try exact zX)|fail)
      refine ⟨k + 1,Weak.headN 2 40 [1, 3, 12, 13] (by (repeat' (first | exact valsIn_nil _ | exact blksIn_nil _ | exact cellsIn_nil _ | refine And.intro ?_ ?_ | refine valsIn_cons ?_ ?_ | refine blksIn_cons ?_ ?_ | refine cellsIn_cons ?_ ?_ | exact True.intro | exact iC_in | (show _ < _; omega) | exact cellsIn_map (fun _ => True.intro) | (intro c hc; cases hc; done) | (intro c hc; simp only [List.mem_cons, List.not_mem_nil, or_false] at hc; subst hc; exact True.intro) | (intro c hc; simp only [List.mem_cons, List.not_mem_nil, or_false] at hc; rcases hc with rfl | rfl <;> exact True.intro)))) (e1:=by first|rfl|(simp [mask,keepL, hO2];done)|(simp [mask,keepL, hO2]<;>simp_all<;>omega)) (e2:=by first|rfl|(simp [mask,keepL, hO2];done)|(simp [mask,keepL, hO2]<;>simp_all<;>omega)),?_,?_⟩
      · exact hlt
      · omega
    · have ek : k = L.length := by omega
      subst ek
      have hnl : ¬ ((L.length : Int) < L.length) := by omega
      repeat' ((fail_if_success (with_reducible refine AWp.atSeq 7 ?_));(fail_if_success (with_reducible refine AWp.atLast 7 ?_));first|((first|(refine zT ?_;intro K' hK')|(refine zG ?_ ?_<;>(try refine zH ?_)<;>intro hguard<;>(try exact zX)<;>try intro K' hK'))<;>((try simp +contextual only [go_sem, hnl]);(repeat' first|(with_reducible refine hK' _ _ ?_;clear hK' K')|exact zY|with_reducible refine And.intro ?_ ?_|(with_reducible intro hpath;try exact zP)|(refine hK' _ _ ?_;clear hK' K')|fail);try refine zS ?_))|(refine zE ?_;refine hK _ _ ?_;clear hK K)|(refine zN ?_;try refine zS ?_)|refine zA ?_|(refine zB ?_;intro K hK)|(refine zC ?_ ?_<;>(try refine zH ?_)<;>intro hcond<;>try exact zX)|fail)
      refine AWp.freezeP 1 0 rfl rfl rfl ?_
      simp only [List.set_cons_succ, List.set_cons_zero]
      simp only [List.reverse_cons, List.reverse_nil, List.nil_append]
      repeat' (first|((first|(refine zT ?_;intro K' hK')|(refine zG ?_ ?_<;>(try refine zH ?_)<;>intro hguard<;>(try exact zX)<;>try intro K' hK'))<;>((try simp +contextual only [go_sem, made_ints, pRows_len, Int.toNat_natCast]);(repeat' first|(with_reducible refine hK' _ _ ?_;clear hK' K')|((with_reducible first|refine ⟨_,_,hS,?_⟩|refine ⟨_,hS,?_⟩);try simp +contextual only [go_sem, made_ints, pRows_len, Int.toNat_natCast])|exact zY|with_reducible refine And.intro ?_ ?_|(with_reducible intro hpath;try exact zP)|(refine hK' _ _ ?_;clear hK' K')|fail);try refine zS ?_))|(refine zE ?_;refine hK _ _ ?_;clear hK K)|(refine zN ?_;try refine zS ?_)|refine zA ?_|(refine zB ?_;intro K hK)|(refine zC ?_ ?_<;>(try refine zH ?_)<;>intro hcond<;>try exact zX)|fail)
      rw [numK_zero L zs]
      have hlz : (zs.map fun x : Nat => (x : Int)).length = L.length := by rw [List.length_map, hzl]
      refine AWp.loopx (α:=Nat) (fun k=>(⟨.c .any :: .c .any :: .c .any :: .c .any :: .c .any :: .c (.ref 2 1 0 L.length L.length) :: .c .any :: .c .any :: .c .any :: .c .any :: .c .any :: .c .any :: .c .any :: .c .any :: .c .any :: .c .any :: .c .any :: .c .any :: .c .any :: .c .any :: .c .any :: .c .any :: .c .any :: .c .any :: .c .any :: .c .any :: .c .any :: .c (.ref 1 1 0 L.length L.length) :: .c (.int .i64 (L.length : Int)) :: .c (.int .i64 (k : Int)) :: .c .any :: .c .any :: .c .any :: .c .any :: .c .any :: .c .any :: .c .any :: .c .any :: .c .any :: .c .any :: [],[.ro [.slice (pRows L)], .box (iC (zs.map fun x : Nat => (x : Int))), .box (iC (tabI L.length (numK L zs k)))]⟩:St)) (fun k=>k ≤ L.length) (fun k=>L.length - k) (0) (Weak.headL 3 40 [5, 27, 28, 29] (by (repeat' (first | exact valsIn_nil _ | exact blksIn_nil _ | exact cellsIn_nil _ | refine And.intro ?_ ?_ | refine valsIn_cons ?_ ?_ | refine blksIn_cons ?_ ?_ | refine cellsIn_cons ?_ ?_ | exact True.intro | exact iC_in | (show _ < _; omega) | exact cellsIn_map (fun _ => True.intro) | (intro c hc; cases hc; done) | (intro c hc; simp only [List.mem_cons, List.not_mem_nil, or_false] at hc; subst hc; exact True.intro) | (intro c hc; simp only [List.mem_cons, List.not_mem_nil, or_false] at hc; rcases hc with rfl | rfl <;> exact True.intro))))) ?_ (fun k hI=>?_)
      · exact Nat.zero_le _
      · have hk : k ≤ L.length := hI
        clear hI
        by_cases hlt : k < L.length
        · have hltI : (k : Int) < L.length := by omega
          have e0 : zs[k]? = some zs[k] := List.getElem?_eq_getElem (by omega)
          have hst := numK_step hz e0
          have hel := hz.lt e0
          have e1 : (zs.map fun x : Nat => (x : Int))[k]? = some ((zs[k] : Nat) : Int) := by rw [List.getElem?_map, e0]; rfl
          have g1 := iC_get e1
          have d1 := iC_drop e1
          have hol := tabI_len L.length (numK L zs k)
          generalize zs[k] = e at *
          have helI : (e : Int) < L.length := by omega
          generalize zs.map (fun x : Nat => (x : Int)) = Z at *
          generalize hO2 : tabI L.length (numK L zs (k + 1)) = O2 at *
          generalize tabI L.length (numK L zs k) = O1 at *
          repeat' (first|((first|(refine zT ?_;intro K' hK')|(refine zG ?_ ?_<;>(try refine zH ?_)<;>intro hguard<;>(try exact zX)<;>try intro K' hK'))<;>((try simp +contextual only [go_sem, hltI, helI, g1, d1, Int.toNat_natCast, Nat.mul_one, iC_set, hst, iC_len, hol, hlz]);(repeat' first|(with_reducible refine hK' _ _ ?_;clear hK' K')|exact zY|with_reducible refine And.intro ?_ ?_|(with_reducible intro hpath;try exact zP)|(refine hK' _ _ ?_;clear hK' K')|fail);try refine zS ?_))|(refine zE ?_;refine hK _ _ ?_;clear hK K)|(refine zN ?_;try refine zS ?_)|refine zA ?_|(refine zB ?_;intro K hK)|(refine zC ?_ ?_<;>(try refine zH ?_)<;>intro hcond<;>try exact zX)|fail)
          refine ⟨k + 1,Weak.headN 3 40 [5, 27, 28, 29] (by (repeat' (first | exact valsIn_nil _ | exact blksIn_nil _ | exact cellsIn_nil _ | refine And.intro ?_ ?_ | refine valsIn_cons ?_ ?_ | refine blksIn_cons ?_ ?_ | refine cellsIn_cons ?_ ?_ | exact True.intro | exact iC_in | (show _ < _; omega) | exact cellsIn_map (fun _ => True.intro) | (intro c hc; cases hc; done) | (intro c hc; simp only [List.mem_cons, List.not_mem_nil, or_false] at hc; subst hc; exact True.intro) | (intro c hc; simp only [List.mem_cons, List.not_mem_nil, or_false] at hc; rcases hc with rfl | rfl <;> exact True.intro)))) (e1:=by first|rfl|(simp [mask,keepL, hO2];done)|(simp [mask,keepL, hO2]<;>simp_all<;>omega)) (e2:=by first|rfl|(simp [mask,keepL, hO2];done)|(simp [mask,keepL, hO2]<;>simp_all<;>omega)),?_,?_⟩
          · exact hlt
          · omega
        · have ek : k = L.length := by omega
          subst ek
          have hnl : ¬ ((L.length : Int) < L.length) := by omega
          have hall := numK_all hz
          rw [hzl] at hall
          have hol := tabI_len L.length (numK L zs L.length)
          rw [hall] at hol ⊢
          generalize numI L = B at *
          repeat' ((fail_if_success (with_reducible refine AWp.atSeq 14 ?_));(fail_if_success (with_reducible refine AWp.atLast 14 ?_));first|((first|(refine zT ?_;intro K' hK')|(refine zG ?_ ?_<;>(try refine zH ?_)<;>intro hguard<;>(try exact zX)<;>try intro K' hK'))<;>((try simp +contextual only [go_sem, hnl]);(repeat' first|(with_reducible refine hK' _ _ ?_;clear hK' K')|exact zY|with_reducible refine And.intro ?_ ?_|(with_reducible intro hpath;try exact zP)|(refine hK' _ _ ?_;clear hK' K')|fail);try refine zS ?_))|(refine zE ?_;refine hK _ _ ?_;clear hK K)|(refine zN ?_;try refine zS ?_)|refine zA ?_|(refine zB ?_;intro K hK)|(refine zC ?_ ?_<;>(try refine zH ?_)<;>intro hcond<;>try exact zX)|fail)
          refine AWp.freezeR 5 2 1 L.length L.length rfl rfl (iC_trees _) (iRows B) (by rw [iRows_len, hol]) (Nat.le_refl _) (fun r hr => iRows_k' hr) (iRows_pre _) ?_
          simp only [List.set_cons_succ, List.set_cons_zero]
          repeat' (first|((first|(refine zT ?_;intro K' hK')|(refine zG ?_ ?_<;>(try refine zH ?_)<;>intro hguard<;>(try exact zX)<;>try intro K' hK'))<;>((try simp +contextual only [go_sem]);(repeat' first|(with_reducible refine hK' _ _ ?_;clear hK' K')|exact zY|with_reducible refine And.intro ?_ ?_|(with_reducible intro hpath;try exact zP)|(refine hK' _ _ ?_;clear hK' K')|fail);try refine zS ?_))|(refine zE ?_;refine hK _ _ ?_;clear hK K)|(refine zN ?_;try refine zS ?_)|refine zA ?_|(refine zB ?_;intro K hK)|(refine zC ?_ ?_<;>(try refine zH ?_)<;>intro hcond<;>try exact zX)|fail)
          simp [Rets, aret, Blk.cells, ty, Tryz.results58, ares, toT1, toT, borrow, borrow0, capCell, toTree0, tints]
end Go.Proofs.YtfkegnhpihoncaaGreat
set_option linter.all false
namespace Go.Proofs.YtfkegnhpihoncaaGreat
open Go.Sp
set_option linter.unusedSimpArgs false
set_option linter.unusedVariables false
set_option maxHeartbeats 4000000
set_option maxRecDepth 100000
def swapI (l : List Int) : Nat → List Int
  | 0 => l
  | i + 1 => ((swapI l i).set i ((swapI l i)[l.length - 1 - i]?.getD 0)).set (l.length - 1 - i) ((swapI l i)[i]?.getD 0)
@[simp] theorem swapI_zero (l : List Int) : swapI l 0 = l := rfl
theorem pre_in {m : Nat} {pre : List Blk} {B : List Int} (hpre : ∀ b, b ∈ pre → blkIn (pre.length + 1) b) (hm : m = pre.length + 1 := by rfl) : blksIn m (pre ++ [.box (iC B)]) := by
  subst hm
  intro b hb
  rcases List.mem_append.1 hb with hb | hb
  · exact hpre b hb
  · obtain rfl := List.mem_singleton.1 hb
    exact iC_in
@[simp] theorem take_pre (pre : List Blk) (X : Blk) : (pre ++ [X]).take (pre.length + 1) = pre ++ [X] := List.take_of_length_le (by simp)
end Go.Proofs.YtfkegnhpihoncaaGreat
set_option linter.all false
namespace Go.Proofs.YtfkegnhpihoncaaGreat
open Go.Sp
set_option linter.unusedSimpArgs false
set_option linter.unusedVariables false
set_option maxHeartbeats 4000000
set_option maxRecDepth 100000
def tu64 (n : Int) : TVal := .t (.int .u64 n)
theorem and32 (n : Nat) (hn : n < 2 ^ 32) : ibit .and .u64 (n : Int) 4294967295 = (n : Int) := by
  show IntKind.u64.wrap (((BitVec.ofInt IntKind.u64.bits (n : Int) &&& BitVec.ofInt IntKind.u64.bits 4294967295).toNat : Nat) : Int) = (n : Int)
  have e1 : (BitVec.ofInt IntKind.u64.bits (n : Int)).toNat = n := by
    rw [BitVec.toNat_ofInt]
    show ((n : Int) % ((2 ^ 64 : Nat) : Int)).toNat = n
    omega
  have e2 : (BitVec.ofInt IntKind.u64.bits 4294967295).toNat = 2 ^ 32 - 1 := by decide
  rw [BitVec.toNat_and, e1, e2, Nat.and_two_pow_sub_one_eq_mod, Nat.mod_eq_of_lt hn]
  exact wrap_in ⟨by omega, by omega⟩
theorem sh32 (x : Int) (h0 : 0 ≤ x) (h1 : x < 4294967296) : x.fdiv (2 ^ min 32 IntKind.u64.bits) = 0 := by
  rw [show (2 : Int) ^ min 32 IntKind.u64.bits = 4294967296 by decide, Int.fdiv_eq_ediv_of_nonneg _ (by omega)]
  omega
theorem sh32b (x : Int) (h0 : 0 ≤ x) (h1 : x < 4294967296) : x.fdiv (2 ^ min 32 64) = 0 := sh32 x h0 h1
theorem Mul64_ok (n : Nat) (hn : n < 2 ^ 30) : ACall Tryz.prog 161 [tu64 1, tu64 n] (.tup [tu64 0, tu64 n]) := by
  have a1 : ibit .and .u64 1 4294967295 = 1 := by decide
  have a0 : ibit .and .u64 0 4294967295 = 0 := by decide
  have an := and32 n (by omega)
  have s1 := sh32 1 (by omega) (by omega)
  have s0 := sh32 0 (by omega) (by omega)
  have sn := sh32 n (by omega) (by omega)
  have t1 := sh32b 1 (by omega) (by omega)
  have t0 := sh32b 0 (by omega) (by omega)
  have tn := sh32b n (by omega) (by omega)
  refine ACall.of_body Tryz.func161 rfl (by kernel_rfl) ?_
  simp only [entry, Tryz.ntmps161, tu64]
  refine zU ?_
  repeat' (first|((first|(refine zT ?_;intro K' hK')|(refine zG ?_ ?_<;>(try refine zH ?_)<;>intro hguard<;>(try exact zX)<;>try intro K' hK'))<;>((try simp +contextual only [go_sem, a1, a0, an, s1, s0, sn, t1, t0, tn, Int.one_mul, Int.zero_mul, Int.mul_zero, Int.add_zero, Int.zero_add]);(repeat' first|(with_reducible refine hK' _ _ ?_;clear hK' K')|exact zY|with_reducible refine And.intro ?_ ?_|(with_reducible intro hpath;try exact zP)|(refine hK' _ _ ?_;clear hK' K')|fail);try refine zS ?_))|(refine zE ?_;refine hK _ _ ?_;clear hK K)|(refine zN ?_;try refine zS ?_)|refine zA ?_|(refine zB ?_;intro K hK)|(refine zC ?_ ?_<;>(try refine zH ?_)<;>intro hcond<;>try exact zX)|fail)
  simp [Rets, aret, Blk.cells, ty, Tryz.results161, ares, toT1, toT, borrow, borrow0, capCell, toTree0, tu64]
theorem Mul_ok (n : Nat) (hn : n < 2 ^ 30) : ACall Tryz.prog 132 [tu64 1, tu64 n] (.tup [tu64 0, tu64 n]) := by
  have h := Mul64_ok n hn
  refine ACall.of_body Tryz.func132 rfl (by kernel_rfl) ?_
  simp only [entry, Tryz.ntmps132, tu64]
  refine zU ?_
  repeat' (first|((first|(refine zT ?_;intro K' hK')|(refine zG ?_ ?_<;>(try refine zH ?_)<;>intro hguard<;>(try exact zX)<;>try intro K' hK'))<;>((try simp +contextual only [go_sem]);(repeat' first|(with_reducible refine hK' _ _ ?_;clear hK' K')|(with_reducible refine zK h ?_;try simp +contextual only [go_sem])|exact zY|with_reducible refine And.intro ?_ ?_|(with_reducible intro hpath;try exact zP)|(refine hK' _ _ ?_;clear hK' K')|fail);try refine zS ?_))|(refine zE ?_;refine hK _ _ ?_;clear hK K)|(refine zN ?_;try refine zS ?_)|refine zA ?_|(refine zB ?_;intro K hK)|(refine zC ?_ ?_<;>(try refine zH ?_)<;>intro hcond<;>try exact zX)|fail)
  simp [Rets, aret, Blk.cells, ty, Tryz.results132, ares, toT1, toT, borrow, borrow0, capCell, toTree0, tu64]
def repL (N n : Nat) : List Int := List.replicate n (-1) ++ List.replicate (N - n) 0
theorem repL_len {N n : Nat} (h : n ≤ N) : (repL N n).length = N := by simp [repL]; omega
theorem repL_zero (N : Nat) : repL N 0 = List.replicate N 0 := by simp [repL]
theorem repL_all (N : Nat) : repL N N = List.replicate N (-1) := by simp [repL]
theorem repL_take {N n m : Nat} (h : m ≤ n) : ((iC (repL N n)).drop 0).take m = iC (List.replicate m (-1)) := by
  unfold repL
  rw [List.drop_zero, iC_app, iC_rep, iC_rep, iC_rep, List.take_append_of_le_length (by simpa using h), List.take_replicate, Nat.min_eq_left h]
theorem repL_put {N n m : Nat} (h : n + m ≤ N) : setMany (iC (repL N n)) n (iC (List.replicate m (-1))) = iC (repL N (n + m)) := by
  have e : List.replicate (N - n) (0 : Int) = List.replicate m 0 ++ List.replicate (N - (n + m)) 0 := by
    rw [List.replicate_append_replicate]; congr 1; omega
  have e2 : List.replicate (n + m) (-1 : Int) = List.replicate n (-1) ++ List.replicate m (-1) := List.replicate_append_replicate.symm
  unfold repL
  rw [e, e2, ← List.append_assoc, iC_app, iC_app, iC_app, iC_app]
  have := setMany_mid (iC (List.replicate n (-1))) (iC (List.replicate m 0)) (iC (List.replicate (N - (n + m)) 0)) (iC (List.replicate m (-1))) (by simp [iC_len])
  rwa [iC_len, List.length_replicate] at this
theorem iC_free : ∀ B : List Int, anyFree (iC B) = true
  | [] => rfl
  | _ :: B => iC_free B
theorem Repeat_ok (N : Nat) (hN : N < 2 ^ 20) (pre : List Blk) (hpre : ∀ b, b ∈ pre → blkIn (pre.length + 1) b) :
    ACallH Tryz.prog 90 pre [.c (.slice [[.int .i64 (-1)]] .exact), .c (.int .i64 N)] (pre ++ [.box (iC (List.replicate N (-1)))]) (.c (.ref pre.length 1 0 N N)) := by
  have hgt : ∀ X : Blk, (pre ++ [X])[pre.length]? = some X := fun X => by simp
  have hst : ∀ X Y : Blk, (pre ++ [X]).set pre.length Y = pre ++ [Y] := fun X Y => by rw [List.set_append_right _ _ (Nat.le_refl _), Nat.sub_self]; rfl
  have hM := Mul_ok N (by omega)
  have n0 : ¬ ((N : Int) < 0) := by omega
  have n1 : ¬ (9223372036854775807 < (N : Int)) := by omega
  refine ACallH.of_body Tryz.func90 rfl (by kernel_rfl) ?_
  simp only [entry, Tryz.ntmps90, List.length_cons, List.length_nil, Nat.reduceAdd, Nat.reduceSub, List.replicate_succ, List.replicate_zero, List.cons_append, List.nil_append]
  by_cases hz : N = 0
  · subst hz
    repeat' (first|((first|(refine zT ?_;intro K' hK')|(refine zG ?_ ?_<;>(try refine zH ?_)<;>intro hguard<;>(try exact zX)<;>try intro K' hK'))<;>((try simp +contextual only [go_sem, made_ints, hgt, hst, Int.toNat_natCast]);(repeat' first|(with_reducible refine hK' _ _ ?_;clear hK' K')|(with_reducible refine zK hM ?_;try simp +contextual only [go_sem, made_ints, hgt, hst, Int.toNat_natCast])|exact zY|with_reducible refine And.intro ?_ ?_|(with_reducible intro hpath;try exact zP)|(refine hK' _ _ ?_;clear hK' K')|fail);try refine zS ?_))|(refine zE ?_;refine hK _ _ ?_;clear hK K)|(refine zN ?_;try refine zS ?_)|refine zA ?_|(refine zB ?_;intro K hK)|(refine zC ?_ ?_<;>(try refine zH ?_)<;>intro hcond<;>try exact zX)|fail)
    refine AWp.loopx (α:=Unit) (fun k=>(⟨.c .any :: .c .any :: .c .any :: .c .any :: .c .any :: .c .any :: .c .any :: .c (.ref pre.length 1 0 0 0) :: .c (.int .i64 0) :: .c .any :: .c .any :: .c .any :: .c .any :: .c .any :: .c .any :: .c .any :: .c .any :: .c .any :: .c .any :: .c .any :: .c .any :: .c .any :: .c .any :: .c .any :: .c .any :: .c .any :: .c .any :: .c .any :: .c .any :: .c .any :: .c .any :: .c .any :: .c .any :: .c .any :: .c .any :: .c .any :: .c .any :: .c .any :: .c .any :: .c .any :: .c .any :: .c .any :: .c .any :: .c .any :: .c .any :: .c .any :: .c .any :: .c .any :: [],pre ++ [.box (iC [])]⟩:St)) (fun k=>True) (fun k=>0) (()) (Weak.headL (pre.length + 1) 48 [7, 8] (by (repeat' (first | exact valsIn_nil _ | exact blksIn_nil _ | exact cellsIn_nil _ | refine And.intro ?_ ?_ | refine valsIn_cons ?_ ?_ | refine blksIn_cons ?_ ?_ | refine cellsIn_cons ?_ ?_ | exact True.intro | exact pre_in hpre | (show _ < _; omega) | exact cellsIn_map (fun _ => True.intro) | (intro c hc; cases hc; done) | (intro c hc; simp only [List.mem_cons, List.not_mem_nil, or_false] at hc; subst hc; exact True.intro) | (intro c hc; simp only [List.mem_cons, List.not_mem_nil, or_false] at hc; rcases hc with rfl | rfl <;> exact True.intro))))) ?_ (fun k hI=>?_)
    · trivial
    ·
      repeat' (first|((first|(refine zT ?_;intro K' hK')|(refine zG ?_ ?_<;>(try refine zH ?_)<;>intro hguard<;>(try exact zX)<;>try intro K' hK'))<;>((try simp +contextual only [go_sem]);(repeat' first|(with_reducible refine hK' _ _ ?_;clear hK' K')|exact zY|with_reducible refine And.intro ?_ ?_|(with_reducible intro hpath;try exact zP)|(refine hK' _ _ ?_;clear hK' K')|fail);try refine zS ?_))|(refine zE ?_;refine hK _ _ ?_;clear hK K)|(refine zN ?_;try refine zS ?_)|refine zA ?_|(refine zB ?_;intro K hK)|(refine zC ?_ ?_<;>(try refine zH ?_)<;>intro hcond<;>try exact zX)|fail)
      simp [RetsH, aretH, ares, noTup, Tryz.results90]
  · have h1 := repL_put (N := N) (n := 0) (m := 1) (by omega)
    rw [Nat.zero_add, repL_zero] at h1
    repeat' (first|((first|(refine zT ?_;intro K' hK')|(refine zG ?_ ?_<;>(try refine zH ?_)<;>intro hguard<;>(try exact zX)<;>try intro K' hK'))<;>((try simp +contextual only [go_sem, n0, n1, made_ints, hgt, hst, Int.toNat_natCast, hz]);(repeat' first|(with_reducible refine hK' _ _ ?_;clear hK' K')|(with_reducible refine zK hM ?_;try simp +contextual only [go_sem, n0, n1, made_ints, hgt, hst, Int.toNat_natCast, hz])|exact zY|with_reducible refine And.intro ?_ ?_|(with_reducible intro hpath;try exact zP)|(refine hK' _ _ ?_;clear hK' K')|fail);try refine zS ?_))|(refine zE ?_;refine hK _ _ ?_;clear hK K)|(refine zN ?_;try refine zS ?_)|refine zA ?_|(refine zB ?_;intro K hK)|(refine zC ?_ ?_<;>(try refine zH ?_)<;>intro hcond<;>try exact zX)|fail)
    · rw [iC_len, List.length_replicate]; omega
    · have hfl : flatRows [[Tree.int IntKind.i64 (-1)]] = iC (List.replicate 1 (-1)) := rfl
      rw [hfl, h1]
      refine AWp.loopx (α:=Nat) (fun k=>(⟨.c .any :: .c .any :: .c .any :: .c .any :: .c .any :: .c .any :: .c .any :: .c (.ref pre.length 1 0 N N) :: .c (.int .i64 ((k : Int) + 1)) :: .c .any :: .c .any :: .c .any :: .c .any :: .c .any :: .c .any :: .c .any :: .c .any :: .c .any :: .c .any :: .c .any :: .c .any :: .c .any :: .c .any :: .c .any :: .c .any :: .c .any :: .c .any :: .c .any :: .c .any :: .c .any :: .c .any :: .c .any :: .c .any :: .c .any :: .c .any :: .c .any :: .c .any :: .c .any :: .c .any :: .c .any :: .c .any :: .c .any :: .c .any :: .c .any :: .c .any :: .c .any :: .c .any :: .c .any :: [],pre ++ [.box (iC (repL N (k + 1)))]⟩:St)) (fun k=>k + 1 ≤ N) (fun k=>N - k) (0) (Weak.headL (pre.length + 1) 48 [7, 8] (by (repeat' (first | exact valsIn_nil _ | exact blksIn_nil _ | exact cellsIn_nil _ | refine And.intro ?_ ?_ | refine valsIn_cons ?_ ?_ | refine blksIn_cons ?_ ?_ | refine cellsIn_cons ?_ ?_ | exact True.intro | exact pre_in hpre | (show _ < _; omega) | exact cellsIn_map (fun _ => True.intro) | (intro c hc; cases hc; done) | (intro c hc; simp only [List.mem_cons, List.not_mem_nil, or_false] at hc; subst hc; exact True.intro) | (intro c hc; simp only [List.mem_cons, List.not_mem_nil, or_false] at hc; rcases hc with rfl | rfl <;> exact True.intro))))) ?_ (fun k hI=>?_)
      · omega
      · have hk : k + 1 ≤ N := hI
        clear hI
        by_cases hlt : k + 1 < N
        · have hltI : (k : Int) + 1 < N := by omega
          have ht : ((k : Int) + 1).toNat = k + 1 := by omega
          obtain ⟨q, hq⟩ : ∃ q, Nat.min (k + 1) (N - (k + 1)) = q := ⟨_, rfl⟩
          have hq1 : q ≤ k + 1 := by rw [← hq]; exact Nat.min_le_left _ _
          have hq2 : q ≤ N - (k + 1) := by rw [← hq]; exact Nat.min_le_right _ _
          have hq3 : 1 ≤ q := by rw [← hq]; exact Nat.le_min.2 ⟨by omega, by omega⟩
          have htk := repL_take (N := N) hq1
          rw [List.drop_zero] at htk
          have hpu := repL_put (N := N) (n := k + 1) (m := q) (by omega)
          have hlenR := repL_len hk
          have hfr := iC_free (List.replicate q (-1))
          have hNt : (N : Int).toNat = N := Int.toNat_natCast N
          have l1 : k + 1 + q ≤ N := by omega
          have l2 : q ≤ N := by omega
          have b1 : (0 : Int) ≤ (k : Int) + 1 := by omega
          have b2 : (k : Int) + 1 ≤ N := by omega
          repeat' (first|((first|(refine zT ?_;intro K' hK')|(refine zG ?_ ?_<;>(try refine zH ?_)<;>intro hguard<;>(try exact zX)<;>try intro K' hK'))<;>((try simp +contextual only [go_sem, hltI, ht, hq, hgt, hst, htk, hpu, iC_len, hlenR, hfr, hNt, l1, l2, b1, b2, Nat.zero_add, Nat.sub_zero, List.drop_zero, or_true, true_or]);(repeat' first|(with_reducible refine hK' _ _ ?_;clear hK' K')|exact zY|with_reducible refine And.intro ?_ ?_|(with_reducible intro hpath;try exact zP)|(refine hK' _ _ ?_;clear hK' K')|fail);try refine zS ?_))|(refine zE ?_;refine hK _ _ ?_;clear hK K)|(refine zN ?_;try refine zS ?_)|refine zA ?_|(refine zB ?_;intro K hK)|(refine zC ?_ ?_<;>(try refine zH ?_)<;>intro hcond<;>try exact zX)|fail)
          have e8 : (k : Int) + 1 + (q : Int) = ((k + q : Nat) : Int) + 1 := by omega
          have e9 : k + 1 + q = k + q + 1 := by omega
          rw [e8, e9]
          refine ⟨k + q,Weak.headN (pre.length + 1) 48 [7, 8] (by (repeat' (first | exact valsIn_nil _ | exact blksIn_nil _ | exact cellsIn_nil _ | refine And.intro ?_ ?_ | refine valsIn_cons ?_ ?_ | refine blksIn_cons ?_ ?_ | refine cellsIn_cons ?_ ?_ | exact True.intro | exact pre_in hpre | (show _ < _; omega) | exact cellsIn_map (fun _ => True.intro) | (intro c hc; cases hc; done) | (intro c hc; simp only [List.mem_cons, List.not_mem_nil, or_false] at hc; subst hc; exact True.intro) | (intro c hc; simp only [List.mem_cons, List.not_mem_nil, or_false] at hc; rcases hc with rfl | rfl <;> exact True.intro)))),?_,?_⟩
          · omega
          · omega
        · have ek : k + 1 = N := by omega
          have hnl : ¬ ((k : Int) + 1 < N) := by omega
          rw [ek, repL_all]
          repeat' (first|((first|(refine zT ?_;intro K' hK')|(refine zG ?_ ?_<;>(try refine zH ?_)<;>intro hguard<;>(try exact zX)<;>try intro K' hK'))<;>((try simp +contextual only [go_sem, hnl]);(repeat' first|(with_reducible refine hK' _ _ ?_;clear hK' K')|exact zY|with_reducible refine And.intro ?_ ?_|(with_reducible intro hpath;try exact zP)|(refine hK' _ _ ?_;clear hK' K')|fail);try refine zS ?_))|(refine zE ?_;refine hK _ _ ?_;clear hK K)|(refine zN ?_;try refine zS ?_)|refine zA ?_|(refine zB ?_;intro K hK)|(refine zC ?_ ?_<;>(try refine zH ?_)<;>intro hcond<;>try exact zX)|fail)
          simp [RetsH, aretH, ares, noTup, Tryz.results90]
end Go.Proofs.YtfkegnhpihoncaaGreat
set_option linter.all false
namespace Go.Proofs.YtfkegnhpihoncaaGreat
open Go.Sp
set_option linter.unusedSimpArgs false
set_option linter.unusedVariables false
set_option maxHeartbeats 4000000
set_option maxRecDepth 100000
def natI (l : List Nat) : List Int := l.map fun x : Nat => (x : Int)
theorem tab_ne {N : Nat} {g : Nat → Int} (h : N ≠ 0) : ¬ iC (tabI N g) = [] := fun e => by
  have := congrArg List.length e
  rw [iC_len, tabI_len] at this
  exact h this
theorem natI_len (l : List Nat) : (natI l).length = l.length := by simp [natI]
theorem natI_snoc (l : List Nat) (x : Nat) : natI (l ++ [x]) = natI l ++ [(x : Int)] := by simp [natI]
theorem itemsN_ps {l : List Nat} {n : Nat} (hn : n = 1) (k : Nat) (ts : List TVal) (h : (itemsN l)[k]? = some ts) : ts.length = n := by
  obtain ⟨p, _, rfl⟩ := itemsN_inv h; exact hn.symm
def fI (f : Nat → Nat) (N k : Nat) : List (List Int) := (facesN f N k).map natI
theorem fI_succ (f : Nat → Nat) (N k : Nat) : fI f N (k + 1) = if leadB f N k = true then fI f N k ++ [natI (faceF f N k)] else fI f N k := by
  unfold fI
  rw [facesN_succ]
  cases leadB f N k <;> simp
theorem fI_len (f : Nat → Nat) (N k : Nat) : (fI f N k).length = (facesN f N k).length := by simp [fI]
theorem facesN_le (f : Nat → Nat) (N k : Nat) : (facesN f N k).length ≤ k := by
  unfold facesN leadsL
  rw [List.length_map]
  exact Nat.le_trans (List.length_filter_le _ _) (by simp)
def ofK (f : Nat → Nat) (N h k x : Nat) : Int := if x ∈ (faceF f N h).take k then ((facesN f N h).length : Int) else ofN f N h x
theorem ofK_step {f : Nat → Nat} {N h k x : Nat} (hx : (faceF f N h)[k]? = some x) (hl : x < N) : (tabI N (ofK f N h k)).set x ((facesN f N h).length : Int) = tabI N (ofK f N h (k + 1)) := by
  rw [tabI_set _ _ hl]
  refine tabI_congr fun j hj => ?_
  unfold ofK
  rw [take_snoc hx]
  by_cases e : j = x
  · subst e; rw [if_pos rfl, if_pos (by simp)]
  · rw [if_neg e]
    by_cases h1 : j ∈ (faceF f N h).take k
    · rw [if_pos h1, if_pos (by simp [h1])]
    · rw [if_neg h1, if_neg (by simp [h1, e])]
theorem ofK_all {f : Nat → Nat} {N h : Nat} (hp : PermN N f) (hh : h < N) (hb : leadB f N h = true) : tabI N (ofK f N h (faceF f N h).length) = tabI N (ofN f N (h + 1)) := by
  refine tabI_congr fun j hj => ?_
  rw [ofN_succ hp hh hb]
  unfold ofK
  rw [List.take_length]
theorem ofK_zero (f : Nat → Nat) (N h : Nat) : tabI N (ofK f N h 0) = tabI N (ofN f N h) := by
  refine tabI_congr fun j hj => ?_
  unfold ofK
  rw [List.take_zero, if_neg (by simp)]
theorem ofN_zero (f : Nat → Nat) (N : Nat) : List.replicate N (-1 : Int) = tabI N (ofN f N 0) := by
  rw [tabI, eq_comm, List.eq_replicate_iff]
  exact ⟨by simp, fun x hx => by obtain ⟨_, _, rfl⟩ := List.mem_map.1 hx; rfl⟩
theorem ofN_keep {f : Nat → Nat} {N h : Nat} (hb : leadB f N h = false) : tabI N (ofN f N h) = tabI N (ofN f N (h + 1)) := tabI_congr fun j hj => (ofN_same hb).symm
theorem ofN_range (f : Nat → Nat) (N k x : Nat) : -1 ≤ ofN f N k x ∧ ofN f N k x < k + 1 := by
  unfold ofN
  cases hx : (facesN f N k).findIdx? (fun l => decide (x ∈ l)) with
  | none => simp only; omega
  | some i =>
    have := (List.findIdx?_eq_some_iff_getElem.1 hx).1
    have := facesN_le f N k
    simp only; omega
theorem iC_ref {B : List Int} {n : Nat} (h : B.length = n) {H : List Blk} {id : Nat} (hid : H[id]? = some (.box (iC B))) : borrow H (.ref id 1 0 n n) = some (.slice (iRows B)) := by
  have e : borrow H (.ref id 1 0 n n) = borrow0 H (.ref id 1 0 n n) := rfl
  have hf := refRows_flat (rows := iRows B) (k := 1) (cap := n) (fun r hr => iRows_k' hr) (fun r hr => by obtain ⟨b, _, rfl⟩ := List.mem_map.1 hr; rfl) (by rw [iRows_len]; omega)
  rw [flat_iRows, iRows_len, h] at hf
  unfold refRows at hf
  rw [e]
  simp only [borrow0, hid, Blk.cells, Option.bind_some]
  split at hf
  · rename_i hc
    rw [if_pos hc]
    cases hm : (((iC B).drop 0).take (n * 1)).mapM toTree0 with
    | none => rw [hm] at hf; simp at hf
    | some ts =>
      rw [hm] at hf
      simp only [Option.bind_some] at hf
      split at hf
      · simp at hf; simp [hf]
      · simp at hf
  · simp at hf
def facesI (r : R) : List (List Int) := (facesR r).map natI
theorem faces_ok (r : R) (hs : RSm r) (hr : ROk r) : ACall Tryz.prog 50 [tR r, tint (endsL r.es).length]
    (.tup [tlists (facesI r), tints (tabI (2 * (endsL r.es).length) (ofN (fR (endsL r.es) r.ar) (2 * (endsL r.es).length) (2 * (endsL r.es).length)))]) := by
  have hB := behind_ok r hs hr
  have hp := hr.perm
  have hlen : (endsL r.es).length ≤ 2000 := ends_len (g := r.g) hs.es hr.c
  have hnx : ∀ x, x < 2 * (endsL r.es).length → (tabI (2 * (endsL r.es).length) (nextR (endsL r.es) r.ar))[oppH x]? = some ((fR (endsL r.es) r.ar x : Nat) : Int) := fun x hx => by
    rw [tabI_get _ (oppH_lt hx)]
    have := hr.next (oppH_lt hx)
    unfold fR
    congr 1; omega
  have hev : ∀ x, x < 2 * (endsL r.es).length → oppH x < 2 * (endsL r.es).length := fun x hx => oppH_lt hx
  have hnl := tabI_len (2 * (endsL r.es).length) (nextR (endsL r.es) r.ar)
  have hF : facesI r = if (endsL r.es).length = 0 then [[]] else fI (fR (endsL r.es) r.ar) (2 * (endsL r.es).length) (2 * (endsL r.es).length) := by
    unfold facesI facesR fI
    split <;> rfl
  rw [hF]
  clear hF hs hr
  obtain ⟨n, es, ar⟩ := r
  simp only at hB hp hlen hnx hev hnl ⊢
  generalize hLe : endsL es = L at *
  clear hLe
  generalize hm : L.length = m at *
  generalize tabI (2 * m) (nextR L ar) = nexts at *
  generalize fR L ar = f at *
  have hRep := Repeat_ok (2 * m) (by omega) [.box [.int .i64 n, .slice (eRows es) .none, .slice (llRows ar) .none]] (by
    intro b hb
    simp only [List.mem_cons, List.not_mem_nil, or_false] at hb
    subst hb
    intro c hc
    simp only [List.mem_cons, List.not_mem_nil, or_false] at hc
    rcases hc with rfl | rfl | rfl <;> exact True.intro)
  simp only [List.cons_append, List.nil_append, List.length_cons, List.length_nil, Nat.zero_add] at hRep
  have h2 : (2 : Int) * (m : Int) = ((2 * m : Nat) : Int) := by omega
  refine ACall.of_body Tryz.func50 rfl (by kernel_rfl) ?_
  simp only [entry, Tryz.ntmps50, tR, tint]
  refine zU ?_
  repeat' ((fail_if_success (with_reducible refine AWp.atSeq 4 ?_));(fail_if_success (with_reducible refine AWp.atLast 4 ?_));first|((first|(refine zT ?_;intro K' hK')|(refine zG ?_ ?_<;>(try refine zH ?_)<;>intro hguard<;>(try exact zX)<;>try intro K' hK'))<;>((try simp +contextual only [go_sem, h2, chunks, List.range, List.range.loop]);(repeat' first|(with_reducible refine hK' _ _ ?_;clear hK' K')|((with_reducible first|refine zK hB ?_|refine ⟨_,_,hRep,?_⟩|refine ⟨_,hRep,?_⟩);try simp +contextual only [go_sem, h2, chunks, List.range, List.range.loop])|exact zY|with_reducible refine And.intro ?_ ?_|(with_reducible intro hpath;try exact zP)|(refine hK' _ _ ?_;clear hK' K')|fail);try refine zS ?_))|(refine zE ?_;refine hK _ _ ?_;clear hK K)|(refine zN ?_;try refine zS ?_)|refine zA ?_|(refine zB ?_;intro K hK)|(refine zC ?_ ?_<;>(try refine zH ?_)<;>intro hcond<;>try exact zX)|fail)
  refine AWp.weak (Weak.openB 3 0 1 rfl rfl (by omega)) ?_
  simp only [List.set_cons_succ, List.set_cons_zero, List.length_cons, List.length_nil, List.length_append, Nat.reduceAdd, List.cons_append, List.nil_append]
  rw [ofN_zero f (2 * m)]
  repeat' (first|((first|(refine zT ?_;intro K' hK')|(refine zG ?_ ?_<;>(try refine zH ?_)<;>intro hguard<;>(try exact zX)<;>try intro K' hK'))<;>((try simp +contextual only [go_sem, h2]);(repeat' first|(with_reducible refine hK' _ _ ?_;clear hK' K')|exact zY|with_reducible refine And.intro ?_ ?_|(with_reducible intro hpath;try exact zP)|(refine hK' _ _ ?_;clear hK' K')|fail);try refine zS ?_))|(refine zE ?_;refine hK _ _ ?_;clear hK K)|(refine zN ?_;try refine zS ?_)|refine zA ?_|(refine zB ?_;intro K hK)|(refine zC ?_ ?_<;>(try refine zH ?_)<;>intro hcond<;>try exact zX)|fail)
  refine AWp.loopx (α:=Nat) (fun h=>(⟨.c .any :: .c (.int .i64 (m : Int)) :: .c .any :: .c .any :: .c .any :: .c .any :: .c (.slice (iRows nexts) .none) :: .c (.ptr 2 0) :: .c (.ptr 3 0) :: .c .any :: .c .any :: .c .any :: .c .any :: .c .any :: .c .any :: .c .any :: .c .any :: .c .any :: .c .any :: .c .any :: .c (.int .i64 ((2 * m : Nat) : Int)) :: .c (.int .i64 (h : Int)) :: .c .any :: .c .any :: .c .any :: .c .any :: .c .any :: .c .any :: .c .any :: .c .any :: .c .any :: .c .any :: .c .any :: .c .any :: .c .any :: .c .any :: .c .any :: .c .any :: .c .any :: .c .any :: .c .any :: .c .any :: .c .any :: .c .any :: .c .any :: .c .any :: .c .any :: .c .any :: .c .any :: .c .any :: .c .any :: .c .any :: [],[.box [.int .i64 n, .slice (eRows es) .none, .slice (llRows ar) .none], .box (iC (tabI (2 * m) (ofN f (2 * m) h))), .box [.ref 1 1 0 (2 * m) (2 * m)], .box [.slice (llRows (fI f (2 * m) h)) (.chain 4)], .chain (fI f (2 * m) h).length 1]⟩:St)) (fun h=>h ≤ 2 * m) (fun h=>2 * m - h) (0) (Weak.headL 5 52 [1, 6, 7, 8, 20, 21] (by (repeat' (first | exact valsIn_nil _ | exact blksIn_nil _ | exact cellsIn_nil _ | refine And.intro ?_ ?_ | refine valsIn_cons ?_ ?_ | refine blksIn_cons ?_ ?_ | refine cellsIn_cons ?_ ?_ | exact True.intro | exact iC_in | (show _ < _; omega) | exact cellsIn_map (fun _ => True.intro) | (intro c hc; cases hc; done) | (intro c hc; simp only [List.mem_cons, List.not_mem_nil, or_false] at hc; subst hc; exact True.intro) | (intro c hc; simp only [List.mem_cons, List.not_mem_nil, or_false] at hc; rcases hc with rfl | rfl <;> exact True.intro))))) ?_ (fun h hI=>?_)
  · exact Nat.zero_le _
  · have hh : h ≤ 2 * m := hI
    clear hI
    have hfl : (fI f (2 * m) h).length ≤ h := by rw [fI_len]; exact facesN_le _ _ _
    by_cases hlt : h < 2 * m
    · have hltI : (h : Int) < ((2 * m : Nat) : Int) := by omega
      have e0 := tabI_get (ofN f (2 * m) h) hlt
      have d1 := iC_drop e0
      have g1 := iC_get e0
      have htl := tabI_len (2 * m) (ofN f (2 * m) h)
      have hneg := ofN_neg hp hlt
      have hsucc := fI_succ f (2 * m) h
      cases hb : leadB f (2 * m) h with
      | false =>
        have hge : 0 ≤ ofN f (2 * m) h h := by
          apply Classical.byContradiction; intro hc
          have := hneg.1 (by omega)
          rw [hb] at this; cases this
        rw [hb, if_neg (by simp)] at hsucc
        have hkp := ofN_keep (N := 2 * m) hb
        rw [hkp] at d1 g1 htl ⊢
        generalize ofN f (2 * m) h h = v at *
        repeat' (first|((first|(refine zT ?_;intro K' hK')|(refine zG ?_ ?_<;>(try refine zH ?_)<;>intro hguard<;>(try exact zX)<;>try intro K' hK'))<;>((try simp +contextual only [go_sem, hltI, d1, g1, iC_len, htl, Int.toNat_natCast, Nat.mul_one, hge]);(repeat' first|(with_reducible refine hK' _ _ ?_;clear hK' K')|exact zY|with_reducible refine And.intro ?_ ?_|(with_reducible intro hpath;try exact zP)|(refine hK' _ _ ?_;clear hK' K')|fail);try refine zS ?_))|(refine zE ?_;refine hK _ _ ?_;clear hK K)|(refine zN ?_;try refine zS ?_)|refine zA ?_|(refine zB ?_;intro K hK)|(refine zC ?_ ?_<;>(try refine zH ?_)<;>intro hcond<;>try exact zX)|fail)
        refine ⟨h + 1,Weak.headN 5 52 [1, 6, 7, 8, 20, 21] (by (repeat' (first | exact valsIn_nil _ | exact blksIn_nil _ | exact cellsIn_nil _ | refine And.intro ?_ ?_ | refine valsIn_cons ?_ ?_ | refine blksIn_cons ?_ ?_ | refine cellsIn_cons ?_ ?_ | exact True.intro | exact iC_in | (show _ < _; omega) | exact cellsIn_map (fun _ => True.intro) | (intro c hc; cases hc; done) | (intro c hc; simp only [List.mem_cons, List.not_mem_nil, or_false] at hc; subst hc; exact True.intro) | (intro c hc; simp only [List.mem_cons, List.not_mem_nil, or_false] at hc; rcases hc with rfl | rfl <;> exact True.intro)))) (e1:=by first|rfl|(simp [mask,keepL, hsucc];done)|(simp [mask,keepL, hsucc]<;>simp_all<;>omega)) (e2:=by first|rfl|(simp [mask,keepL, hsucc];done)|(simp [mask,keepL, hsucc]<;>simp_all<;>omega)),?_,?_⟩
        · exact hlt
        · omega
      | true =>
        have hlt0 : ofN f (2 * m) h h < 0 := hneg.2 hb
        have hge : ¬ 0 ≤ ofN f (2 * m) h h := by omega
        rw [hb, if_pos rfl] at hsucc
        have hO := orbit_ok nexts h
        have hall := ofK_all hp hlt hb
        have hz := ofK_zero f (2 * m) h
        generalize hv : ofN f (2 * m) h h = v at *
        repeat' ((fail_if_success (with_reducible refine AWp.atSeq 9 ?_));(fail_if_success (with_reducible refine AWp.atLast 9 ?_));first|((first|(refine zT ?_;intro K' hK')|(refine zG ?_ ?_<;>(try refine zH ?_)<;>intro hguard<;>(try exact zX)<;>try intro K' hK'))<;>((try simp +contextual only [go_sem, hltI, d1, g1, iC_len, htl, Int.toNat_natCast, Nat.mul_one, hge]);(repeat' first|(with_reducible refine hK' _ _ ?_;clear hK' K')|(with_reducible refine zK hO ?_;try simp +contextual only [go_sem, hltI, d1, g1, iC_len, htl, Int.toNat_natCast, Nat.mul_one, hge])|exact zY|with_reducible refine And.intro ?_ ?_|(with_reducible intro hpath;try exact zP)|(refine hK' _ _ ?_;clear hK' K')|fail);try refine zS ?_))|(refine zE ?_;refine hK _ _ ?_;clear hK K)|(refine zN ?_;try refine zS ?_)|refine zA ?_|(refine zB ?_;intro K hK)|(refine zC ?_ ?_<;>(try refine zH ?_)<;>intro hcond<;>try exact zX)|fail)
        refine AWp.weak (Weak.openB 5 0 1 rfl rfl (by omega)) ?_
        simp only [List.set_cons_succ, List.set_cons_zero, List.length_cons, List.length_nil, List.length_append, Nat.reduceAdd, List.cons_append, List.nil_append]
        repeat' (first|((first|(refine zT ?_;intro K' hK')|(refine zG ?_ ?_<;>(try refine zH ?_)<;>intro hguard<;>(try exact zX)<;>try intro K' hK'))<;>((try simp +contextual only [go_sem]);(repeat' first|(with_reducible refine hK' _ _ ?_;clear hK' K')|(with_reducible refine zK hO ?_;try simp +contextual only [go_sem])|exact zY|with_reducible refine And.intro ?_ ?_|(with_reducible intro hpath;try exact zP)|(refine hK' _ _ ?_;clear hK' K')|fail);try refine zS ?_))|(refine zE ?_;refine hK _ _ ?_;clear hK K)|(refine zN ?_;try refine zS ?_)|refine zA ?_|(refine zB ?_;intro K hK)|(refine zC ?_ ?_<;>(try refine zH ?_)<;>intro hcond<;>try exact zX)|fail)
        rw [← hz]
        refine AWp.weak (Weak.head (m := 7) (by omega) ((fun t f => [f, t, f, f, f, f, t, t, t, t, t, f, f, f, f, f, f, f, f, f, t, t, f, f, f, f, f, f, f, f, f, t, f, f, f, f, f, f, f, f, f, f, f, f, f, f, f, f, f, f, f, f]) true false) (by first | rfl | simp [mask]) (by first | rfl | simp) (by (repeat' (first | exact valsIn_nil _ | refine valsIn_cons ?_ ?_ | refine cellsIn_cons ?_ ?_ | exact cellsIn_nil _ | exact True.intro | (show _ < _; omega) | (intro c hc; cases hc; done) | (intro c hc; simp only [List.mem_cons, List.not_mem_nil, or_false] at hc; subst hc; exact True.intro) | (intro c hc; simp only [List.mem_cons, List.not_mem_nil, or_false] at hc; rcases hc with rfl | rfl <;> exact True.intro)))) (by (repeat' (first | exact valsIn_nil _ | exact blksIn_nil _ | exact cellsIn_nil _ | refine And.intro ?_ ?_ | refine valsIn_cons ?_ ?_ | refine blksIn_cons ?_ ?_ | refine cellsIn_cons ?_ ?_ | exact True.intro | exact iC_in | (show _ < _; omega) | exact cellsIn_map (fun _ => True.intro) | (intro c hc; cases hc; done) | (intro c hc; simp only [List.mem_cons, List.not_mem_nil, or_false] at hc; subst hc; exact True.intro) | (intro c hc; simp only [List.mem_cons, List.not_mem_nil, or_false] at hc; rcases hc with rfl | rfl <;> exact True.intro))))) (AWp.rangeFunc (fun k H => H = [.box [.int .i64 n, .slice (eRows es) .none, .slice (llRows ar) .none], .box (iC (tabI (2 * m) (ofK f (2 * m) h k))), .box [.ref 1 1 0 (2 * m) (2 * m)], .box [.slice (llRows (fI f (2 * m) h)) (.chain 4)], .chain (fI f (2 * m) h).length 1, .box [.slice (iRows (natI ((faceF f (2 * m) h).take k))) (.chain 6)], .chain ((faceF f (2 * m) h).take k).length 1] ∧ (True)) (fun _ _ => False) 7 rfl (orbit1_ok hp (by omega) nexts hnl hev hnx h hlt) (itemsN_ps rfl) (by omega) (by (repeat' (first | exact valsIn_nil _ | refine valsIn_cons ?_ ?_ | refine cellsIn_cons ?_ ?_ | exact cellsIn_nil _ | exact True.intro | (show _ < _; omega) | (intro c hc; cases hc; done) | (intro c hc; simp only [List.mem_cons, List.not_mem_nil, or_false] at hc; subst hc; exact True.intro) | (intro c hc; simp only [List.mem_cons, List.not_mem_nil, or_false] at hc; rcases hc with rfl | rfl <;> exact True.intro)))) (by rintro _ _ ⟨rfl, -⟩; simp [tab_ne (show 2 * m ≠ 0 by omega)]) (fun _ _ h => h.elim) ?_ (fun l k ts H hts hI => ?_) (fun H hI => ?_) (fun e H h => h.elim))
        · exact ⟨rfl, trivial⟩
        · obtain ⟨rfl, -⟩ := hI
          obtain ⟨x, hx, rfl⟩ := itemsN_inv hts
          have hxl : x < 2 * m := face_lt hp hlt (List.mem_of_getElem? hx)
          have hxI : (x : Int) < ((2 * m : Nat) : Int) := by omega
          have hst := ofK_step hx hxl
          rw [← fI_len] at hst
          have htK := tabI_len (2 * m) (ofK f (2 * m) h k)
          have hkl : k < (faceF f (2 * m) h).length := (List.getElem?_eq_some_iff.1 hx).1
          have hfl2 := face_len hp hlt
          have hsn := take_snoc hx
          have hns := natI_snoc ((faceF f (2 * m) h).take k) x
          rw [← hsn] at hns
          have hlk : (natI ((faceF f (2 * m) h).take k)).length = k := by rw [natI_len, List.length_take]; omega
          have hlk0 : ((faceF f (2 * m) h).take k).length = k := by rw [List.length_take]; omega
          have hlk1 : ((faceF f (2 * m) h).take (k + 1)).length = k + 1 := by rw [List.length_take]; omega
          have hrs := iRows_snoc (natI ((faceF f (2 * m) h).take k)) (x : Int)
          rw [← hns] at hrs
          generalize hT2 : natI ((faceF f (2 * m) h).take (k + 1)) = T2 at *
          generalize natI ((faceF f (2 * m) h).take k) = T1 at *
          generalize hO2 : tabI (2 * m) (ofK f (2 * m) h (k + 1)) = O2 at *
          generalize tabI (2 * m) (ofK f (2 * m) h k) = O1 at *
          simp only [mask, setPs, List.zip_cons_cons, List.zip_nil_right, List.zip_nil_left, List.foldl_cons, List.foldl_nil, List.set_cons_succ, List.set_cons_zero, ofT, ofT1, ofTree, List.map_cons, List.map_nil, ofT, ofT1, toT, toT1, toTree0, tint, tbool, tpair, tG, tpairs, tints]
          repeat' (first|((first|(refine zT ?_;intro K' hK')|(refine zG ?_ ?_<;>(try refine zH ?_)<;>intro hguard<;>(try exact zX)<;>try intro K' hK'))<;>((try simp +contextual only [go_sem, hxI, Int.toNat_natCast, Nat.mul_one, llRows_len, iC_set, hst, iC_len, htK, hrs, iRows_len, hlk, hlk0, chunks, List.range, List.range.loop]);(repeat' first|(with_reducible refine hK' _ _ ?_;clear hK' K')|(with_reducible exact iRows_k' (by assumption))|exact zY|with_reducible refine And.intro ?_ ?_|(with_reducible intro hpath;try exact zP)|(refine hK' _ _ ?_;clear hK' K')|fail);try refine zS ?_))|(refine zE ?_;refine hK _ _ ?_;clear hK K)|(refine zN ?_;try refine zS ?_)|refine zA ?_|(refine zB ?_;intro K hK)|(refine zC ?_ ?_<;>(try refine zH ?_)<;>intro hcond<;>try exact zX)|fail)
          refine ⟨⟨_, _⟩, Weak.head2 (m := 7) (by decide) ((fun t f => [f, f, f, f, f, f, f, f, f, f, f, f, f, f, f, f, f, f, f, f, f, f, f, f, f, f, f, f, f, f, f, f, f, f, f, f, f, f, f, f, f, f, f, f, f, f, f, f, f, f, f, f]) true false) rfl rfl (by (repeat' (first | exact valsIn_nil _ | exact blksIn_nil _ | exact cellsIn_nil _ | refine And.intro ?_ ?_ | refine valsIn_cons ?_ ?_ | refine blksIn_cons ?_ ?_ | refine cellsIn_cons ?_ ?_ | exact True.intro | exact iC_in | (show _ < _; omega) | exact cellsIn_map (fun _ => True.intro) | (intro c hc; cases hc; done) | (intro c hc; simp only [List.mem_cons, List.not_mem_nil, or_false] at hc; subst hc; exact True.intro) | (intro c hc; simp only [List.mem_cons, List.not_mem_nil, or_false] at hc; rcases hc with rfl | rfl <;> exact True.intro)))), ?_, ?_⟩
          · simp [hT2, hO2, hlk1]
          · trivial
        · obtain ⟨rfl, -⟩ := hI
          rw [itemsN_len, hall, List.take_length]
          have hsr := llRows_snoc (fI f (2 * m) h) (natI (faceF f (2 * m) h))
          rw [← hsucc] at hsr
          have hln : (fI f (2 * m) (h + 1)).length = (fI f (2 * m) h).length + 1 := by rw [hsucc]; simp
          simp only [mask]
          repeat' (first|((first|(refine zT ?_;intro K' hK')|(refine zG ?_ ?_<;>(try refine zH ?_)<;>intro hguard<;>(try exact zX)<;>try intro K' hK'))<;>((try simp +contextual only [go_sem, llRows_len, hsr, chunks, List.range, List.range.loop]);(repeat' first|(with_reducible refine hK' _ _ ?_;clear hK' K')|(with_reducible exact llRows_k' (by assumption))|exact zY|with_reducible refine And.intro ?_ ?_|(with_reducible intro hpath;try exact zP)|(refine hK' _ _ ?_;clear hK' K')|fail);try refine zS ?_))|(refine zE ?_;refine hK _ _ ?_;clear hK K)|(refine zN ?_;try refine zS ?_)|refine zA ?_|(refine zB ?_;intro K hK)|(refine zC ?_ ?_<;>(try refine zH ?_)<;>intro hcond<;>try exact zX)|fail)
          refine ⟨h + 1,Weak.headN 5 52 [1, 6, 7, 8, 20, 21] (by (repeat' (first | exact valsIn_nil _ | exact blksIn_nil _ | exact cellsIn_nil _ | refine And.intro ?_ ?_ | refine valsIn_cons ?_ ?_ | refine blksIn_cons ?_ ?_ | refine cellsIn_cons ?_ ?_ | exact True.intro | exact iC_in | (show _ < _; omega) | exact cellsIn_map (fun _ => True.intro) | (intro c hc; cases hc; done) | (intro c hc; simp only [List.mem_cons, List.not_mem_nil, or_false] at hc; subst hc; exact True.intro) | (intro c hc; simp only [List.mem_cons, List.not_mem_nil, or_false] at hc; rcases hc with rfl | rfl <;> exact True.intro)))) (e1:=by first|rfl|(simp [mask,keepL, hln];done)|(simp [mask,keepL, hln]<;>simp_all<;>omega)) (e2:=by first|rfl|(simp [mask,keepL, hln];done)|(simp [mask,keepL, hln]<;>simp_all<;>omega)),?_,?_⟩
          · exact hlt
          · omega
    · have eh : h = 2 * m := by omega
      subst eh
      have hnl2 : ¬ (((2 * m : Nat) : Int) < ((2 * m : Nat) : Int)) := by omega
      have htl := tabI_len (2 * m) (ofN f (2 * m) (2 * m))
      generalize tabI (2 * m) (ofN f (2 * m) (2 * m)) = B at *
      have hbr : ∀ a c d e : Blk, borrow [a, .box (iC B), c, d, e] (.ref 1 1 0 (2 * m) (2 * m)) = some (.slice (iRows B)) := fun a c d e => iC_ref htl rfl
      have hbs : ∀ (H : List Blk) rows tok, borrow H (.slice rows tok) = some (.slice rows) := fun _ _ _ => rfl
      by_cases hz : m = 0
      · rw [if_pos hz]
        have hzI : (m : Int) = 0 := by omega
        repeat' (first|((first|(refine zT ?_;intro K' hK')|(refine zG ?_ ?_<;>(try refine zH ?_)<;>intro hguard<;>(try exact zX)<;>try intro K' hK'))<;>((try simp +contextual only [go_sem, hnl2, hzI, chunks, List.range, List.range.loop]);(repeat' first|(with_reducible refine hK' _ _ ?_;clear hK' K')|exact zY|with_reducible refine And.intro ?_ ?_|(with_reducible intro hpath;try exact zP)|(refine hK' _ _ ?_;clear hK' K')|fail);try refine zS ?_))|(refine zE ?_;refine hK _ _ ?_;clear hK K)|(refine zN ?_;try refine zS ?_)|refine zA ?_|(refine zB ?_;intro K hK)|(refine zC ?_ ?_<;>(try refine zH ?_)<;>intro hcond<;>try exact zX)|fail)
        simp [Rets, aret, Tryz.results50, ares, toT1, toT, tlists, tints, hbr, hbs, llRows, iRows]
      · rw [if_neg hz]
        have hzI : ¬ ((m : Int) = 0) := by omega
        repeat' (first|((first|(refine zT ?_;intro K' hK')|(refine zG ?_ ?_<;>(try refine zH ?_)<;>intro hguard<;>(try exact zX)<;>try intro K' hK'))<;>((try simp +contextual only [go_sem, hnl2, hzI]);(repeat' first|(with_reducible refine hK' _ _ ?_;clear hK' K')|exact zY|with_reducible refine And.intro ?_ ?_|(with_reducible intro hpath;try exact zP)|(refine hK' _ _ ?_;clear hK' K')|fail);try refine zS ?_))|(refine zE ?_;refine hK _ _ ?_;clear hK K)|(refine zN ?_;try refine zS ?_)|refine zA ?_|(refine zB ?_;intro K hK)|(refine zC ?_ ?_<;>(try refine zH ?_)<;>intro hcond<;>try exact zX)|fail)
        simp [Rets, aret, Tryz.results50, ares, toT1, toT, tlists, tints, hbr, hbs]
end Go.Proofs.YtfkegnhpihoncaaGreat
set_option linter.all false
namespace Go.Proofs.YtfkegnhpihoncaaGreat
open Go.Sp
set_option linter.unusedSimpArgs false
set_option linter.unusedVariables false
set_option maxHeartbeats 4000000
set_option maxRecDepth 100000
theorem rFaces_ok (r : R) (hs : RSm r) : ACall Tryz.prog 13 [tR r] (.tup [tlists (if ribE r ≠ 0 then [] else facesI r), tint (ribE r)]) := by
  have hC := rchecked_ok r hs
  by_cases he : ribE r = 0
  · have hF := faces_ok r hs (rok_of he)
    rw [if_neg (by omega), he] at hC
    rw [if_neg (by omega), he]
    generalize facesI r = F at *
    generalize tabI (2 * (endsL r.es).length) (ofN (fR (endsL r.es) r.ar) (2 * (endsL r.es).length) (2 * (endsL r.es).length)) = O at *
    generalize endsL r.es = L at *
    clear he hs
    obtain ⟨n, es, ar⟩ := r
    refine ACall.of_body Tryz.func13 rfl (by kernel_rfl) ?_
    simp only [entry, Tryz.ntmps13, tR]
    refine zU ?_
    repeat' (first|((first|(refine zT ?_;intro K' hK')|(refine zG ?_ ?_<;>(try refine zH ?_)<;>intro hguard<;>(try exact zX)<;>try intro K' hK'))<;>((try simp +contextual only [go_sem, pRows_len]);(repeat' first|(with_reducible refine hK' _ _ ?_;clear hK' K')|((with_reducible first|refine zK hC ?_|refine zK hF ?_);try simp +contextual only [go_sem, pRows_len])|exact zY|with_reducible refine And.intro ?_ ?_|(with_reducible intro hpath;try exact zP)|(refine hK' _ _ ?_;clear hK' K')|fail);try refine zS ?_))|(refine zE ?_;refine hK _ _ ?_;clear hK K)|(refine zN ?_;try refine zS ?_)|refine zA ?_|(refine zB ?_;intro K hK)|(refine zC ?_ ?_<;>(try refine zH ?_)<;>intro hcond<;>try exact zX)|fail)
    simp [Rets, aret, Blk.cells, ty, Tryz.results13, ares, toT1, toT, borrow, borrow0, capCell, toTree0, tint, tlists]
  · rw [if_pos he] at hC ⊢
    generalize ribE r = E at *
    obtain ⟨n, es, ar⟩ := r
    refine ACall.of_body Tryz.func13 rfl (by kernel_rfl) ?_
    simp only [entry, Tryz.ntmps13, tR]
    refine zU ?_
    repeat' (first|((first|(refine zT ?_;intro K' hK')|(refine zG ?_ ?_<;>(try refine zH ?_)<;>intro hguard<;>(try exact zX)<;>try intro K' hK'))<;>((try simp +contextual only [go_sem, he]);(repeat' first|(with_reducible refine hK' _ _ ?_;clear hK' K')|(with_reducible refine zK hC ?_;try simp +contextual only [go_sem, he])|exact zY|with_reducible refine And.intro ?_ ?_|(with_reducible intro hpath;try exact zP)|(refine hK' _ _ ?_;clear hK' K')|fail);try refine zS ?_))|(refine zE ?_;refine hK _ _ ?_;clear hK K)|(refine zN ?_;try refine zS ?_)|refine zA ?_|(refine zB ?_;intro K hK)|(refine zC ?_ ?_<;>(try refine zH ?_)<;>intro hcond<;>try exact zX)|fail)
    simp [Rets, aret, Blk.cells, ty, Tryz.results13, ares, toT1, toT, borrow, borrow0, capCell, toTree0, tint, tlists, llRows]
theorem tdiv_bnd {x : Int} (h1 : -10000 ≤ x) (h2 : x ≤ 10000) : -10000 ≤ x.tdiv 2 ∧ x.tdiv 2 ≤ 10000 := by
  rcases Int.le_total 0 x with h | h
  · rw [Int.tdiv_eq_ediv_of_nonneg h]; omega
  · obtain ⟨y, rfl⟩ : ∃ y, x = -y := ⟨-x, by omega⟩
    rw [Int.neg_tdiv, Int.tdiv_eq_ediv_of_nonneg (by omega)]; omega
theorem facesI_len (r : R) : (facesI r).length = (facesR r).length := by simp [facesI]
theorem facesR_le (r : R) : (facesR r).length ≤ 2 * (endsL r.es).length + 1 := by
  unfold facesR
  split
  · simp
  · have := facesN_le (fR (endsL r.es) r.ar) (2 * (endsL r.es).length) (2 * (endsL r.es).length); omega
theorem rGenus_ok (r : R) (hs : RSm r) : ACall Tryz.prog 14 [tR r] (.tup [tint (if ribE r ≠ 0 then 0 else genusR r), tint (ribE r)]) := by
  have hC := rchecked_ok r hs
  by_cases he : ribE r = 0
  · have hF := faces_ok r hs (rok_of he)
    rw [if_neg (by omega), he] at hC
    rw [if_neg (by omega), he]
    have hfl := facesI_len r
    have hfe := facesR_le r
    have hlen : (endsL r.es).length ≤ 2000 := ends_len (g := r.g) hs.es (rok_of he).c
    have h12 : 1 ≤ r.n ∧ r.n ≤ 12 := (checkG_zero.1 (rok_of he).c).1
    unfold genusR
    rw [← hfl]
    rw [← hfl] at hfe
    generalize facesI r = F at *
    generalize tabI (2 * (endsL r.es).length) (ofN (fR (endsL r.es) r.ar) (2 * (endsL r.es).length) (2 * (endsL r.es).length)) = O at *
    generalize endsL r.es = L at *
    clear he hs hfl
    obtain ⟨n, es, ar⟩ := r
    try simp only at h12 ⊢
    refine ACall.of_body Tryz.func14 rfl (by kernel_rfl) ?_
    simp only [entry, Tryz.ntmps14, tR]
    refine zU ?_
    have hd := tdiv_bnd (x := 2 - n + (L.length : Int) - (F.length : Int)) (by omega) (by omega)
    have hd1 : -9223372036854775808 ≤ (2 - n + (L.length : Int) - (F.length : Int)).tdiv 2 := by omega
    have hd2 : (2 - n + (L.length : Int) - (F.length : Int)).tdiv 2 ≤ 9223372036854775807 := by omega
    repeat' (first|((first|(refine zT ?_;intro K' hK')|(refine zG ?_ ?_<;>(try refine zH ?_)<;>intro hguard<;>(try exact zX)<;>try intro K' hK'))<;>((try simp +contextual only [go_sem, pRows_len, llRows_len, hd1, hd2]);(repeat' first|(with_reducible refine hK' _ _ ?_;clear hK' K')|((with_reducible first|refine zK hC ?_|refine zK hF ?_);try simp +contextual only [go_sem, pRows_len, llRows_len, hd1, hd2])|exact zY|with_reducible refine And.intro ?_ ?_|(with_reducible intro hpath;try exact zP)|(refine hK' _ _ ?_;clear hK' K')|fail);try refine zS ?_))|(refine zE ?_;refine hK _ _ ?_;clear hK K)|(refine zN ?_;try refine zS ?_)|refine zA ?_|(refine zB ?_;intro K hK)|(refine zC ?_ ?_<;>(try refine zH ?_)<;>intro hcond<;>try exact zX)|fail)
    simp [Rets, aret, Blk.cells, ty, Tryz.results14, ares, toT1, toT, borrow, borrow0, capCell, toTree0, tint]
  · rw [if_pos he] at hC ⊢
    generalize ribE r = E at *
    obtain ⟨n, es, ar⟩ := r
    refine ACall.of_body Tryz.func14 rfl (by kernel_rfl) ?_
    simp only [entry, Tryz.ntmps14, tR]
    refine zU ?_
    repeat' (first|((first|(refine zT ?_;intro K' hK')|(refine zG ?_ ?_<;>(try refine zH ?_)<;>intro hguard<;>(try exact zX)<;>try intro K' hK'))<;>((try simp +contextual only [go_sem, he]);(repeat' first|(with_reducible refine hK' _ _ ?_;clear hK' K')|(with_reducible refine zK hC ?_;try simp +contextual only [go_sem, he])|exact zY|with_reducible refine And.intro ?_ ?_|(with_reducible intro hpath;try exact zP)|(refine hK' _ _ ?_;clear hK' K')|fail);try refine zS ?_))|(refine zE ?_;refine hK _ _ ?_;clear hK K)|(refine zN ?_;try refine zS ?_)|refine zA ?_|(refine zB ?_;intro K hK)|(refine zC ?_ ?_<;>(try refine zH ?_)<;>intro hcond<;>try exact zX)|fail)
    simp [Rets, aret, Blk.cells, ty, Tryz.results14, ares, toT1, toT, borrow, borrow0, capCell, toTree0, tint]
end Go.Proofs.YtfkegnhpihoncaaGreat
set_option linter.all false
namespace Go.Proofs.YtfkegnhpihoncaaGreat
open Go.Sp
set_option linter.unusedSimpArgs false
set_option linter.unusedVariables false
set_option maxHeartbeats 4000000
set_option maxRecDepth 100000
theorem idxI_least {l : List Int} (h : l ≠ []) : idxI l (l.getD (leastN l) 0) = leastN l := by
  have h1 := leastN_lt h
  obtain ⟨_, _, h3⟩ := leastGo_spec l (l.length - 1)
  refine idxI_hit (fun j hj x hx => ?_) h1 (by rw [List.getD_eq_getElem?_getD, List.getElem?_eq_getElem h1]; rfl)
  have := h3 j hj
  rw [List.getD_eq_getElem?_getD (i := j), hx] at this
  simp only [Option.getD_some] at this
  unfold leastN; omega
theorem turned_ok (l : List Int) (hl : l.length < 2 ^ 30) : ACall Tryz.prog 60 [tints l] (tints (turnL l)) := by
  refine ACall.of_body Tryz.func60 rfl (by kernel_rfl) ?_
  simp only [entry, Tryz.ntmps60, tints]
  refine zU ?_
  by_cases h : l = []
  · subst h
    repeat' (first|((first|(refine zT ?_;intro K' hK')|(refine zG ?_ ?_<;>(try refine zH ?_)<;>intro hguard<;>(try exact zX)<;>try intro K' hK'))<;>((try simp +contextual only [go_sem, iRows_len]);(repeat' first|(with_reducible refine hK' _ _ ?_;clear hK' K')|exact zY|with_reducible refine And.intro ?_ ?_|(with_reducible intro hpath;try exact zP)|(refine hK' _ _ ?_;clear hK' K')|fail);try refine zS ?_))|(refine zE ?_;refine hK _ _ ?_;clear hK K)|(refine zN ?_;try refine zS ?_)|refine zA ?_|(refine zB ?_;intro K hK)|(refine zC ?_ ?_<;>(try refine zH ?_)<;>intro hcond<;>try exact zX)|fail)
    simp [Rets, aret, Blk.cells, ty, Tryz.results60, ares, toT1, toT, borrow, borrow0, capCell, toTree0, tints, turnL_nil, iRows]
  · have hp : 0 < l.length := List.length_pos_iff.2 h
    have hpI : ¬ ((l.length : Int) = 0) := by omega
    have hk := leastN_lt h
    have hkI : (leastN l : Int) ≤ l.length := by omega
    have hM := Min_ok l h (by omega)
    have hI := Index_ok l (l.getD (leastN l) 0) (by omega)
    rw [idxI_least h] at hI
    have hC := Concat_ok [l.drop (leastN l), l.take (leastN l)] (by simp; omega) (by simp; omega) (by simp)
    have hf : [l.drop (leastN l), l.take (leastN l)].flatten = turnL l := by simp [turnL]
    rw [hf] at hC
    simp only [tlists, llRows, List.map_cons, List.map_nil] at hC
    generalize l.getD (leastN l) 0 = m at *
    generalize turnL l = T at *
    generalize leastN l = k at *
    have hd : (iRows l).drop k = iRows (l.drop k) := iRows_drop l k
    have ht : (iRows l).take k = iRows (l.take k) := iRows_take l k
    have hta : (iRows l).take l.length = iRows l := List.take_of_length_le (by rw [iRows_len]; exact Nat.le_refl _)
    repeat' (first|((first|(refine zT ?_;intro K' hK')|(refine zG ?_ ?_<;>(try refine zH ?_)<;>intro hguard<;>(try exact zX)<;>try intro K' hK'))<;>((try simp +contextual only [go_sem, hpI, hkI, iRows_len, Int.toNat_natCast, Int.toNat_zero, hd, ht, hta, Int.ofNat_lt, Option.isSome_none, false_and, not_false_eq_true, List.drop_zero, chunks, List.range, List.range.loop]);(repeat' first|(with_reducible refine hK' _ _ ?_;clear hK' K')|((with_reducible first|refine zK hM ?_|refine zK hI ?_|refine zK hC ?_);try simp +contextual only [go_sem, hpI, hkI, iRows_len, Int.toNat_natCast, Int.toNat_zero, hd, ht, hta, Int.ofNat_lt, Option.isSome_none, false_and, not_false_eq_true, List.drop_zero, chunks, List.range, List.range.loop])|(with_reducible exact iRows_k' (by assumption))|exact zY|with_reducible refine And.intro ?_ ?_|(with_reducible intro hpath;try exact zP)|(refine hK' _ _ ?_;clear hK' K')|fail);try refine zS ?_))|(refine zE ?_;refine hK _ _ ?_;clear hK K)|(refine zN ?_;try refine zS ?_)|refine zA ?_|(refine zB ?_;intro K hK)|(refine zC ?_ ?_<;>(try refine zH ?_)<;>intro hcond<;>try exact zX)|fail)
    simp [Rets, aret, Blk.cells, ty, Tryz.results60, ares, toT1, toT, borrow, borrow0, capCell, toTree0, tints]
end Go.Proofs.YtfkegnhpihoncaaGreat
set_option linter.all false
namespace Go.Proofs.YtfkegnhpihoncaaGreat
open Go.Sp
set_option linter.unusedSimpArgs false
set_option linter.unusedVariables false
set_option maxHeartbeats 4000000
set_option maxRecDepth 100000
end Go.Proofs.YtfkegnhpihoncaaGreat
set_option linter.all false
namespace Go.Proofs.YtfkegnhpihoncaaGreat
open Go.Sp
set_option linter.unusedSimpArgs false
set_option linter.unusedVariables false
set_option maxHeartbeats 4000000
set_option maxRecDepth 100000
def pC (l : List (Int × Int)) : List ACell := l.flatMap fun p => [.int .i64 p.1, .int .i64 p.2]
theorem pC_cons (p : Int × Int) (l : List (Int × Int)) : pC (p :: l) = .int .i64 p.1 :: .int .i64 p.2 :: pC l := rfl
theorem pC_len (l : List (Int × Int)) : (pC l).length = l.length * 2 := by
  induction l with
  | nil => rfl
  | cons p l ih => rw [pC_cons]; simp only [List.length_cons, ih]; omega
theorem pC_set : ∀ (l : List (Int × Int)) (i : Nat) (x y : Int), ((pC l).set (i * 2) (.int .i64 x)).set (i * 2 + 1) (.int .i64 y) = pC (l.set i (x, y)) := by
  intro l
  induction l with
  | nil => intro i x y; rfl
  | cons q l ih =>
    intro i x y
    cases i with
    | zero => rfl
    | succ i =>
      rw [show (i + 1) * 2 = i * 2 + 1 + 1 by omega, pC_cons]
      simp only [List.set_cons_succ, ih, pC_cons]
theorem pC_in {m : Nat} {l : List (Int × Int)} : blkIn m (.box (pC l)) := by
  intro c hc
  obtain ⟨p, _, hp⟩ := List.mem_flatMap.1 hc
  simp only [List.mem_cons, List.not_mem_nil, or_false] at hp
  rcases hp with rfl | rfl <;> exact True.intro
def pT (l : List (Int × Int)) : List Tree := l.flatMap fun p => [.int .i64 p.1, .int .i64 p.2]
theorem pC_trees (l : List (Int × Int)) : (pC l).mapM toTree0 = some (pT l) := by
  induction l with
  | nil => rfl
  | cons p l ih => rw [pC_cons]; simp [List.mapM_cons, toTree0, ih, pT]
theorem pRows_pre : ∀ (l : List (Int × Int)) (i : Nat) (r : List Tree) (m : Nat) (x : Tree), (pRows l)[i]? = some r → r[m]? = some x → (pT l)[i * 2 + m]? = some x := by
  intro l
  induction l with
  | nil => intro i r m x h; simp [pRows] at h
  | cons p l ih =>
    intro i r m x h1 h2
    have hm : m < 2 := by
      have h3 : r.length = 2 := pRows_k' (List.mem_of_getElem? h1)
      have := (List.getElem?_eq_some_iff.1 h2).1
      omega
    have e : pT (p :: l) = .int .i64 p.1 :: .int .i64 p.2 :: pT l := rfl
    cases i with
    | zero =>
      simp [pRows, pRow] at h1
      subst h1
      rw [e]
      match m, hm with
      | 0, _ => simpa using h2
      | 1, _ => simpa using h2
    | succ i =>
      rw [e, show (i + 1) * 2 + m = i * 2 + m + 1 + 1 by omega]
      simp only [List.getElem?_cons_succ]
      exact ih i r m x (by simpa [pRows] using h1) h2
def swapR (l : List (Int × Int)) : Nat → List (Int × Int)
  | 0 => l
  | i + 1 => ((swapR l i).set i ((swapR l i)[l.length - 1 - i]?.getD (0, 0))).set (l.length - 1 - i) ((swapR l i)[i]?.getD (0, 0))
end Go.Proofs.YtfkegnhpihoncaaGreat
set_option linter.all false
namespace Go.Proofs.YtfkegnhpihoncaaGreat
open Go.Sp
set_option linter.unusedSimpArgs false
set_option linter.unusedVariables false
set_option maxHeartbeats 4000000
set_option maxRecDepth 100000
def ofF (r : R) (x : Nat) : Int := ofN (fR (endsL r.es) r.ar) (2 * (endsL r.es).length) (2 * (endsL r.es).length) x
def joinsR (r : R) : List (Int × Int) := (List.range (endsL r.es).length).map fun i => (ofF r (2 * i), ofF r (2 * i + 1))
noncomputable def dualM (r : R) : G × Int := makeE (facesR r).length (joinsR r)
noncomputable def dualE (r : R) : Int := if ribE r ≠ 0 then ribE r else if 12 < (facesR r).length then 5 else (dualM r).2
def dualH (O N : List Int) (x : Int) : Int :=
  2 * N.getD (x.toNat / 2) 0 + (if O.getD (oppH x.toNat) 0 < O.getD x.toNat 0 ∨ (O.getD x.toNat 0 = O.getD (oppH x.toNat) 0 ∧ x.toNat % 2 = 1) then 1 else 0)
def dualAr (r : R) : List (List Int) := (facesI r).map fun l => turnL (l.map (dualH (tabI (2 * (endsL r.es).length) (ofF r)) (numI (joinsR r))))
noncomputable def dualD (r : R) : R := if dualE r ≠ 0 then ⟨0, [], []⟩ else ⟨(dualM r).1.n, (dualM r).1.es, dualAr r⟩
noncomputable def dualN (r : R) : List Int := if dualE r ≠ 0 then [] else numI (joinsR r)
theorem joinsR_len (r : R) : (joinsR r).length = (endsL r.es).length := by simp [joinsR]
theorem numI_len (L : List (Int × Int)) : (numI L).length = L.length := tabI_len _ _
theorem numI_range (L : List (Int × Int)) {v : Int} (h : v ∈ numI L) : 0 ≤ v ∧ v ≤ L.length := by
  obtain ⟨e, _, rfl⟩ := List.mem_map.1 h
  refine ⟨by omega, ?_⟩
  have := List.length_filter_le (fun f => decide (ltN L f e)) (List.range L.length)
  rw [List.length_range] at this
  omega
def jK (O : List Int) (m k : Nat) : List (Int × Int) := (List.range m).map fun i => if i < k then (O.getD (2 * i) 0, O.getD (2 * i + 1) 0) else (0, 0)
theorem jK_len (O : List Int) (m k : Nat) : (jK O m k).length = m := by simp [jK]
theorem jK_get {O : List Int} {m k i : Nat} (h : i < m) : (jK O m k)[i]? = some (if i < k then (O.getD (2 * i) 0, O.getD (2 * i + 1) 0) else (0, 0)) := by simp [jK, h]
theorem jK_step {O : List Int} {m k : Nat} (hk : k < m) : (jK O m k).set k (O.getD (2 * k) 0, O.getD (2 * k + 1) 0) = jK O m (k + 1) := by
  apply List.ext_getElem?
  intro i
  by_cases hi : i < m
  · rw [jK_get hi]
    by_cases e : k = i
    · subst e
      rw [List.getElem?_set_self (by rw [jK_len]; exact hk), if_pos (by omega)]
    · rw [List.getElem?_set_ne e, jK_get hi]
      by_cases h1 : i < k
      · rw [if_pos h1, if_pos (by omega)]
      · rw [if_neg h1, if_neg (by omega)]
  · rw [List.getElem?_eq_none (by rw [List.length_set, jK_len]; omega), List.getElem?_eq_none (by rw [jK_len]; omega)]
theorem made_pairs : ∀ m : Nat, madeA [ACell.int .i64 0, ACell.int .i64 0] m = pC (List.replicate m (0, 0))
  | 0 => rfl
  | m + 1 => by
    have ih := made_pairs m
    unfold madeA pC at ih ⊢
    rw [List.replicate_succ, List.replicate_succ, List.flatten_cons, List.flatMap_cons, ih]
theorem jK_zero (O : List Int) (m : Nat) : madeA [ACell.int .i64 0, ACell.int .i64 0] m = pC (jK O m 0) := by
  have e : jK O m 0 = List.replicate m (0, 0) := by
    unfold jK
    rw [List.eq_replicate_iff]
    exact ⟨by simp, fun x hx => by obtain ⟨i, _, rfl⟩ := List.mem_map.1 hx; rw [if_neg (by omega)]⟩
  rw [e]; exact made_pairs m
theorem jK_all (r : R) : jK (tabI (2 * (endsL r.es).length) (ofF r)) (endsL r.es).length (endsL r.es).length = joinsR r := by
  unfold jK joinsR
  refine List.map_congr_left fun i hi => ?_
  have hi' := List.mem_range.1 hi
  rw [if_pos hi', List.getD_eq_getElem?_getD, tabI_get _ (by omega), List.getD_eq_getElem?_getD, tabI_get _ (by omega)]; rfl
theorem facesI_mem {r : R} (hr : ROk r) {l : List Int} (hl : l ∈ facesI r) {x : Int} (hx : x ∈ l) : 0 ≤ x ∧ x < 2 * ((endsL r.es).length : Int) := by
  unfold facesI facesR at hl
  obtain ⟨a, ha, rfl⟩ := List.mem_map.1 hl
  obtain ⟨b, hb, rfl⟩ := List.mem_map.1 hx
  split at ha
  · simp at ha; subst ha; cases hb
  · obtain ⟨c, hc, rfl⟩ := List.mem_map.1 ha
    have h1 := (leadsL_mem.1 hc).1
    have := face_lt hr.perm h1 hb
    omega
theorem facesI_short {r : R} (hr : ROk r) {l : List Int} (hl : l ∈ facesI r) : l.length ≤ 2 * (endsL r.es).length := by
  unfold facesI facesR at hl
  obtain ⟨a, ha, rfl⟩ := List.mem_map.1 hl
  rw [natI_len]
  split at ha
  · simp at ha; subst ha; simp
  · obtain ⟨c, hc, rfl⟩ := List.mem_map.1 ha
    exact face_len hr.perm (leadsL_mem.1 hc).1
end Go.Proofs.YtfkegnhpihoncaaGreat
