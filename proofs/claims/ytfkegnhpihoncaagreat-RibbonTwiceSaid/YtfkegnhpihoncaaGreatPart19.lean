/- A part of the proof: contracts of functions of the program, and plain lemmas. -/
import Derived.Test.YtfkegnhpihoncaaGreatPart18
import Derived.Test.YtfkegnhpihoncaaGreatPart13
import Derived.Test.YtfkegnhpihoncaaGreatLayerC
import Derived.Test.YtfkegnhpihoncaaGreatPart06
set_option linter.all false
namespace Go.Proofs.YtfkegnhpihoncaaGreat
open Go.Sp
set_option linter.unusedSimpArgs false
set_option linter.unusedVariables false
set_option maxHeartbeats 4000000
set_option maxRecDepth 100000
def numI (L : List (Int × Int)) : List Int := tabI L.length fun e => (((List.range L.length).filter fun f => decide (ltN L f e)).length : Int)
structure NOrd (L : List (Int × Int)) (zs : List Nat) : Prop where
  p : zs.Perm (List.range L.length)
  s : zs.Pairwise (ltN L)
theorem NOrd.pos {L : List (Int × Int)} {zs : List Nat} (h : NOrd L zs) {i e : Nat} (he : zs[i]? = some e) : ((List.range L.length).filter fun f => decide (ltN L f e)).length = i := by
  rw [← (h.p.filter _).length_eq]
  obtain ⟨hi, e1⟩ := List.getElem?_eq_some_iff.1 he
  have hs := h.s
  rw [List.pairwise_iff_getElem] at hs
  have hcut : zs = zs.take i ++ zs.drop i := (List.take_append_drop i zs).symm
  rw [hcut, List.filter_append]
  have h1 : (zs.take i).filter (fun f => decide (ltN L f e)) = zs.take i := by
    rw [List.filter_eq_self]
    intro f hf
    obtain ⟨j, hj, rfl⟩ := List.mem_iff_getElem.1 hf
    have hj' : j < i := by have := hj; rw [List.length_take] at this; omega
    rw [List.getElem_take, decide_eq_true_eq, ← e1]
    exact hs j i (by omega) hi hj'
  have h2 : (zs.drop i).filter (fun f => decide (ltN L f e)) = [] := by
    rw [List.filter_eq_nil_iff]
    intro f hf
    obtain ⟨j, hj, rfl⟩ := List.mem_iff_getElem.1 hf
    rw [List.getElem_drop, decide_eq_true_eq, ← e1]
    by_cases e0 : j = 0
    · subst e0; simp only [Nat.add_zero]; unfold ltN; omega
    · have hj' : i + j < zs.length := by rw [List.length_drop] at hj; omega
      have := hs i (i + j) hi hj' (by omega)
      unfold ltN at *; omega
  rw [h1, h2, List.append_nil, List.length_take]; omega
theorem NOrd.len {L : List (Int × Int)} {zs : List Nat} (h : NOrd L zs) : zs.length = L.length := by rw [h.p.length_eq]; simp
theorem NOrd.lt {L : List (Int × Int)} {zs : List Nat} (h : NOrd L zs) {i e : Nat} (he : zs[i]? = some e) : e < L.length := by
  have := h.p.mem_iff.1 (List.mem_of_getElem? he)
  exact List.mem_range.1 this
theorem NOrd.nd {L : List (Int × Int)} {zs : List Nat} (h : NOrd L zs) : zs.Nodup := h.p.nodup_iff.2 List.nodup_range
def numK (L : List (Int × Int)) (zs : List Nat) (k e : Nat) : Int := if e ∈ zs.take k then (((List.range L.length).filter fun f => decide (ltN L f e)).length : Int) else 0
theorem numK_step {L : List (Int × Int)} {zs : List Nat} (h : NOrd L zs) {k e : Nat} (he : zs[k]? = some e) : (tabI L.length (numK L zs k)).set e (k : Int) = tabI L.length (numK L zs (k + 1)) := by
  rw [tabI_set _ _ (h.lt he)]
  refine tabI_congr fun j hj => ?_
  unfold numK
  rw [take_snoc he]
  by_cases e1 : j = e
  · subst e1; rw [if_pos rfl, if_pos (by simp), h.pos he]
  · rw [if_neg e1]
    by_cases h1 : j ∈ zs.take k
    · rw [if_pos h1, if_pos (by simp [h1])]
    · rw [if_neg h1, if_neg (by simp [h1, e1])]
theorem numK_all {L : List (Int × Int)} {zs : List Nat} (h : NOrd L zs) : tabI L.length (numK L zs zs.length) = numI L := by
  refine tabI_congr fun j hj => ?_
  unfold numK
  rw [List.take_length, if_pos (h.p.mem_iff.2 (List.mem_range.2 hj))]
theorem numK_zero (L : List (Int × Int)) (zs : List Nat) : List.replicate L.length (0 : Int) = tabI L.length (numK L zs 0) := by
  rw [tabI_rep]
  refine tabI_congr fun j hj => ?_
  unfold numK
  rw [List.take_zero, if_neg (by simp)]
def ordK (m k : Nat) : List Int := tabI m fun i => if i < k then (i : Int) else 0
theorem ordK_step {m k : Nat} (hk : k < m) : (ordK m k).set k (k : Int) = ordK m (k + 1) := by
  unfold ordK
  rw [tabI_set _ _ hk]
  refine tabI_congr fun j hj => ?_
  by_cases e : j = k
  · subst e; rw [if_pos rfl, if_pos (by omega)]
  · rw [if_neg e]
    by_cases h1 : j < k
    · rw [if_pos h1, if_pos (by omega)]
    · rw [if_neg h1, if_neg (by omega)]
theorem ordK_zero (m : Nat) : List.replicate m (0 : Int) = ordK m 0 := by
  rw [tabI_rep]; unfold ordK
  exact tabI_congr fun j _ => by rw [if_neg (by omega)]
theorem ordK_all (m : Nat) : iC (ordK m m) = flatRows (cellRows cellF (List.finRange m)) := by
  have e : cellRows cellF (List.finRange m) = iRows (ordK m m) := by
    apply List.ext_getElem?
    intro i
    unfold cellRows iRows ordK
    by_cases hi : i < m
    · have e1 : (List.finRange m)[i]? = some ⟨i, hi⟩ := by rw [List.getElem?_eq_getElem (by simpa using hi)]; simp
      rw [List.getElem?_map, e1, List.getElem?_map, tabI_get _ hi]
      simp [cellF, hi]
    · rw [List.getElem?_eq_none (by simpa using hi), List.getElem?_eq_none (by simp [tabI_len]; omega)]
  rw [e, flat_iRows]
theorem sortN_ord (L : List (Int × Int)) (h0 : 0 < L.length) : ∃ zs, NOrd L zs ∧ flatRows (cellRows cellF (@sortL (Fin L.length) ⟨⟨0, h0⟩⟩ (fun x y => cfN L x.val y.val) (List.finRange L.length))) = iC (zs.map fun x : Nat => (x : Int)) := by
  obtain ⟨h1, h2⟩ := @sortL_spec (Fin L.length) ⟨⟨0, h0⟩⟩ _ (swoN L L.length) (List.finRange L.length)
  generalize (@sortL (Fin L.length) ⟨⟨0, h0⟩⟩ (fun x y => cfN L x.val y.val) (List.finRange L.length)) = ys at *
  have hpm : (ys.map fun x => x.val).Perm (List.range L.length) := by
    have := h1.map fun x : Fin L.length => x.val
    have e : (List.finRange L.length).map (fun x => x.val) = List.range L.length := by
      apply List.ext_getElem?
      intro i
      by_cases hi : i < L.length
      · simp [hi]
      · rw [List.getElem?_eq_none (by simpa using hi), List.getElem?_eq_none (by simpa using hi)]
    rwa [e] at this
  refine ⟨ys.map fun x => x.val, ⟨hpm, ?_⟩, ?_⟩
  · have hnd : (ys.map fun x => x.val).Nodup := hpm.nodup_iff.2 List.nodup_range
    rw [List.Nodup, List.pairwise_iff_getElem] at hnd
    rw [List.pairwise_iff_getElem]
    intro i j hi hj hij
    have hi' : i < ys.length := by simpa using hi
    have hj' : j < ys.length := by simpa using hj
    have h3 := h2 i j _ _ hij (List.getElem?_eq_getElem hi') (List.getElem?_eq_getElem hj')
    have h4 := hnd i j hi hj hij
    rw [← Bool.not_eq_true] at h3
    unfold Go.Proofs.ltOf at h3
    rw [decide_eq_true_eq, cfN_lt] at h3
    simp only [List.getElem_map] at h4 ⊢
    unfold ltN at *; omega
  · have e : cellRows cellF ys = iRows ((ys.map fun x => x.val).map fun x : Nat => (x : Int)) := by
      simp [cellRows, iRows, cellF]
    rw [e, flat_iRows]
end Go.Proofs.YtfkegnhpihoncaaGreat
set_option linter.all false
namespace Go.Proofs.YtfkegnhpihoncaaGreat
open Go.Sp
set_option linter.unusedSimpArgs false
set_option linter.unusedVariables false
set_option maxHeartbeats 4000000
set_option maxRecDepth 100000
theorem sortN_any (L : List (Int × Int)) (hl : L.length ≤ 2000) : ∃ zs, NOrd L zs ∧ ACallH Tryz.prog 100 [.ro [.slice (pRows L)], .box (iC (ordK L.length L.length))] [.c (.ref 1 1 0 L.length L.length), .c (.fn 101 [.tree (.rptr [.slice (pRows L)])])]
    [.ro [.slice (pRows L)], .box (iC (zs.map fun x : Nat => (x : Int)))] (.tup []) := by
  by_cases h0 : L.length = 0
  · have hL : L = [] := List.length_eq_zero_iff.1 h0
    subst hL
    exact ⟨[], ⟨List.Perm.refl _, List.Pairwise.nil⟩, SortN_none rfl⟩
  · have hp : 0 < L.length := by omega
    obtain ⟨zs, hz, he⟩ := sortN_ord L hp
    refine ⟨zs, hz, ?_⟩
    have hS := SortN_ok L (by omega) hp (List.finRange L.length) (by simp; omega) (H := [.ro [.slice (pRows L)], .box (iC (ordK L.length L.length))]) (id := 1) (cap := L.length) (by rw [ordK_all]; rfl)
    rw [he, List.length_finRange] at hS
    exact hS
theorem numbers_ok (L : List (Int × Int)) (hl : L.length ≤ 2000) : ACall Tryz.prog 58 [tpairs L] (tints (numI L)) := by
  obtain ⟨zs, hz, hS⟩ := sortN_any L hl
  have hzl := hz.len
  refine ACall.of_body Tryz.func58 rfl (by kernel_rfl) ?_
  simp only [entry, Tryz.ntmps58, tpairs]
  refine zU ?_
  refine zR (zc @made_ints (zc @pRows_len trivial)) trivial trivial ?_
  rw [ordK_zero]
  refine AWp.loopS (α:=Nat) 40 (fun k=>[(1,.c (.ptr 0 0)),(3,.c (.ref 1 1 0 L.length L.length)),(12,.c (.int .i64 (L.length : Int))),(13,.c (.int .i64 (k : Int)))]) (fun k=>[.box [.slice (pRows L) .none], .box (iC (ordK L.length k))]) (fun k=>k ≤ L.length) (fun k=>L.length - k) (0) (hk:=Weak.headL 2 40 [1, 3, 12, 13] (zV @iC_in)) (h0:=?_) (round:=fun k hI=>?_)
  · exact Nat.zero_le _
  · have hk : k ≤ L.length := hI
    clear hI
    by_cases hlt : k < L.length
    · have hltI : (k : Int) < L.length := by omega
      have hst := ordK_step hlt
      have hol : (ordK L.length k).length = L.length := tabI_len _ _
      generalize hO2 : ordK L.length (k + 1) = O2 at *
      generalize ordK L.length k = O1 at *
      refine zR (zc @hltI (zc @iC_set (zc @hst (zc @iC_len (zc @hol trivial))))) trivial trivial ?_
      refine ⟨k + 1,Weak.headF 2 40 [1, 3, 12, 13] (zc @hO2 trivial) (zV @iC_in),?_,?_⟩
      · exact hlt
      · omega
    · have ek : k = L.length := by omega
      subst ek
      have hnl : ¬ ((L.length : Int) < L.length) := by omega
      repeat' ((fail_if_success (with_reducible refine AWp.atSeq 7 ?_));(fail_if_success (with_reducible refine AWp.atLast 7 ?_));first|((first|(refine zT ?_;intro K' hK')|(refine zG ?_ ?_<;>(try refine zH ?_)<;>intro hguard<;>(try exact zX)<;>try intro K' hK'))<;>((try simp +contextual only [go_sem, hnl]);(repeat' first|(with_reducible refine hK' _ _ ?_;clear hK' K')|exact zY|with_reducible refine And.intro ?_ ?_|(with_reducible intro hpath;try exact zP)|(refine hK' _ _ ?_;clear hK' K')|fail);try refine zS ?_))|(refine zE ?_;refine hK _ _ ?_;clear hK K)|(refine zN ?_;try refine zS ?_)|refine zA ?_|(refine zB ?_;intro K hK)|(refine zC ?_ ?_<;>(try refine zH ?_)<;>intro hcond<;>try exact zX)|fail)
      refine AWp.freezeP 1 0 rfl rfl rfl ?_
      simp only [List.set_cons_succ, List.set_cons_zero]
      simp only [List.reverse_cons, List.reverse_nil, List.nil_append]
      repeat' (first|((first|(refine zT ?_;intro K' hK')|(refine zG ?_ ?_<;>(try refine zH ?_)<;>intro hguard<;>(try exact zX)<;>try intro K' hK'))<;>((try simp +contextual only [go_sem, made_ints, pRows_len, Int.toNat_natCast]);(repeat' first|(with_reducible refine hK' _ _ ?_;clear hK' K')|((with_reducible first|refine ⟨_,_,hS,?_⟩|refine ⟨_,hS,?_⟩);try simp +contextual only [go_sem, made_ints, pRows_len, Int.toNat_natCast])|exact zY|with_reducible refine And.intro ?_ ?_|(with_reducible intro hpath;try exact zP)|(refine hK' _ _ ?_;clear hK' K')|fail);try refine zS ?_))|(refine zE ?_;refine hK _ _ ?_;clear hK K)|(refine zN ?_;try refine zS ?_)|refine zA ?_|(refine zB ?_;intro K hK)|(refine zC ?_ ?_<;>(try refine zH ?_)<;>intro hcond<;>try exact zX)|fail)
      rw [numK_zero L zs]
      have hlz : (zs.map fun x : Nat => (x : Int)).length = L.length := by rw [List.length_map, hzl]
      refine AWp.loopS (α:=Nat) 40 (fun k=>[(5,.c (.ref 2 1 0 L.length L.length)),(27,.c (.ref 1 1 0 L.length L.length)),(28,.c (.int .i64 (L.length : Int))),(29,.c (.int .i64 (k : Int)))]) (fun k=>[.ro [.slice (pRows L)], .box (iC (zs.map fun x : Nat => (x : Int))), .box (iC (tabI L.length (numK L zs k)))]) (fun k=>k ≤ L.length) (fun k=>L.length - k) (0) (hk:=Weak.headL 3 40 [5, 27, 28, 29] (zV @iC_in)) (h0:=?_) (round:=fun k hI=>?_)
      · exact Nat.zero_le _
      · have hk : k ≤ L.length := hI
        clear hI
        by_cases hlt : k < L.length
        · have hltI : (k : Int) < L.length := by omega
          have e0 : zs[k]? = some zs[k] := List.getElem?_eq_getElem (by omega)
          have hst := numK_step hz e0
          have hel := hz.lt e0
          have e1 : (zs.map fun x : Nat => (x : Int))[k]? = some ((zs[k] : Nat) : Int) := by rw [List.getElem?_map, e0]; rfl
          have g1 := iC_get e1
          have d1 := iC_drop e1
          have hol := tabI_len L.length (numK L zs k)
          generalize zs[k] = e at *
          have helI : (e : Int) < L.length := by omega
          generalize zs.map (fun x : Nat => (x : Int)) = Z at *
          generalize hO2 : tabI L.length (numK L zs (k + 1)) = O2 at *
          generalize tabI L.length (numK L zs k) = O1 at *
          refine zR (zc @hltI (zc @helI (zc @g1 (zc @d1 (zc @iC_set (zc @hst (zc @iC_len (zc @hol (zc @hlz trivial))))))))) trivial trivial ?_
          refine ⟨k + 1,Weak.headF 3 40 [5, 27, 28, 29] (zc @hO2 trivial) (zV @iC_in),?_,?_⟩
          · exact hlt
          · omega
        · have ek : k = L.length := by omega
          subst ek
          have hnl : ¬ ((L.length : Int) < L.length) := by omega
          have hall := numK_all hz
          rw [hzl] at hall
          have hol := tabI_len L.length (numK L zs L.length)
          rw [hall] at hol ⊢
          generalize numI L = B at *
          repeat' ((fail_if_success (with_reducible refine AWp.atSeq 14 ?_));(fail_if_success (with_reducible refine AWp.atLast 14 ?_));first|((first|(refine zT ?_;intro K' hK')|(refine zG ?_ ?_<;>(try refine zH ?_)<;>intro hguard<;>(try exact zX)<;>try intro K' hK'))<;>((try simp +contextual only [go_sem, hnl]);(repeat' first|(with_reducible refine hK' _ _ ?_;clear hK' K')|exact zY|with_reducible refine And.intro ?_ ?_|(with_reducible intro hpath;try exact zP)|(refine hK' _ _ ?_;clear hK' K')|fail);try refine zS ?_))|(refine zE ?_;refine hK _ _ ?_;clear hK K)|(refine zN ?_;try refine zS ?_)|refine zA ?_|(refine zB ?_;intro K hK)|(refine zC ?_ ?_<;>(try refine zH ?_)<;>intro hcond<;>try exact zX)|fail)
          refine AWp.freezeR 5 2 1 L.length L.length rfl rfl (iC_trees _) (iRows B) (by rw [iRows_len, hol]) (Nat.le_refl _) (fun r hr => iRows_k' hr) (iRows_pre _) ?_
          simp only [List.set_cons_succ, List.set_cons_zero]
          refine zR trivial trivial trivial ?_
          simp [Rets, aret, Blk.cells, ty, Tryz.results58, ares, toT1, toT, borrow, borrow0, capCell, toTree0, tints]
end Go.Proofs.YtfkegnhpihoncaaGreat
set_option linter.all false
namespace Go.Proofs.YtfkegnhpihoncaaGreat
open Go.Sp
set_option linter.unusedSimpArgs false
set_option linter.unusedVariables false
set_option maxHeartbeats 4000000
set_option maxRecDepth 100000
def halfE (r : R) (h : Int) : Int := if ribE r ≠ 0 then ribE r else if h < 0 ∨ 2 * ((endsL r.es).length : Int) ≤ h then 2 else 0
theorem CloneE_ok (l : List E) (hne : l ≠ []) (hl : l.length < 2 ^ 30) : ACall Tryz.prog 107 [.t (.slice (eRows l))] (.t (.slice (eRows l))) := by
  have hrn : eRows l ≠ [] := by simpa [eRows] using hne
  have hrl : (eRows l).length = l.length := eRows_len l
  have hrk : ∀ r, r ∈ eRows l → r.length = 3 := fun r hr => eRows_k' hr
  refine ACall.of_body Tryz.func107 rfl (by kernel_rfl) ?_
  simp only [entry, Tryz.ntmps107]
  refine zU ?_
  generalize eRows l = rows at *
  repeat' (first|((first|(refine zT ?_;intro K' hK')|(refine zG ?_ ?_<;>(try refine zH ?_)<;>intro hguard<;>(try exact zX)<;>try intro K' hK'))<;>((try simp +contextual only [go_sem, hrl, chunks, List.range, List.range.loop]);(repeat' first|(with_reducible refine hK' _ _ ?_;clear hK' K')|(exact hrn)|(with_reducible exact hrk _ (by assumption))|(exact .inr True.intro)|exact zY|with_reducible refine And.intro ?_ ?_|(with_reducible intro hpath;try exact zP)|(refine hK' _ _ ?_;clear hK' K')|fail);try refine zS ?_))|(refine zE ?_;refine hK _ _ ?_;clear hK K)|(refine zN ?_;try refine zS ?_)|refine zA ?_|(refine zB ?_;intro K hK)|(refine zC ?_ ?_<;>(try refine zH ?_)<;>intro hcond<;>try exact zX)|fail)
  simp [Rets, aret, Blk.cells, ty, Tryz.results107, ares, toT1, toT, borrow, borrow0, capCell, toTree0]
theorem CloneE_none : ACall Tryz.prog 107 [.t (.slice [])] (.t (.slice [])) := by
  refine ACall.of_body Tryz.func107 rfl (by kernel_rfl) ?_
  simp only [entry, Tryz.ntmps107]
  refine zU ?_
  repeat' (first|((with_reducible refine AWp.seq (AWp.of_reg (id:=1) (AReg.pre 1 (fun K hK=>?_))));simp only [List.take_succ_cons,List.take_zero])|((with_reducible refine AWp.of_reg (id:=1) (AReg.pre 1 (fun K hK=>?_)));simp only [List.take_succ_cons,List.take_zero])|((first|(refine zT ?_;intro K' hK')|(refine zG ?_ ?_<;>(try refine zH ?_)<;>intro hguard<;>(try exact zX)<;>try intro K' hK'))<;>((try simp +contextual only [go_sem]);(repeat' first|(with_reducible refine hK' _ _ ?_;clear hK' K')|exact zY|with_reducible refine And.intro ?_ ?_|(with_reducible intro hpath;try exact zP)|(refine hK' _ _ ?_;clear hK' K')|fail);try refine zS ?_))|(refine zE ?_;refine hK _ _ ?_;clear hK K)|(refine zN ?_;try refine zS ?_)|refine zA ?_|(refine zB ?_;intro K hK)|(refine zC ?_ ?_<;>(try refine zH ?_)<;>intro hcond<;>try exact zX)|fail)
  simp only [List.drop_succ_cons, List.drop_zero]
  refine AReg.nilq (e := 76) false rfl rfl rfl (by simp only [ty]) rfl rfl (fun b => AReg.rest (fun K hK => ?_))
  cases b
  ·
    repeat' (first|((first|(refine zT ?_;intro K' hK')|(refine zG ?_ ?_<;>(try refine zH ?_)<;>intro hguard<;>(try exact zX)<;>try intro K' hK'))<;>((try simp +contextual only [go_sem, List.length_nil, chunks, List.range, List.range.loop, List.map_nil]);(repeat' first|(with_reducible refine hK' _ _ ?_;clear hK' K')|(exact .inr True.intro)|(exact absurd True.intro (by assumption))|exact zY|with_reducible refine And.intro ?_ ?_|(with_reducible intro hpath;try exact zP)|(refine hK' _ _ ?_;clear hK' K')|fail);try refine zS ?_))|(refine zE ?_;refine hK _ _ ?_;clear hK K)|(refine zN ?_;try refine zS ?_)|refine zA ?_|(refine zB ?_;intro K hK)|(refine zC ?_ ?_<;>(try refine zH ?_)<;>intro hcond<;>try exact zX)|fail)
    simp [Rets, aret, Blk.cells, ty, Tryz.results107, ares, toT1, toT, borrow, borrow0, capCell, toTree0]
  ·
    repeat' (first|((first|(refine zT ?_;intro K' hK')|(refine zG ?_ ?_<;>(try refine zH ?_)<;>intro hguard<;>(try exact zX)<;>try intro K' hK'))<;>((try simp +contextual only [go_sem]);(repeat' first|(with_reducible refine hK' _ _ ?_;clear hK' K')|exact zY|with_reducible refine And.intro ?_ ?_|(with_reducible intro hpath;try exact zP)|(refine hK' _ _ ?_;clear hK' K')|fail);try refine zS ?_))|(refine zE ?_;refine hK _ _ ?_;clear hK K)|(refine zN ?_;try refine zS ?_)|refine zA ?_|(refine zB ?_;intro K hK)|(refine zC ?_ ?_<;>(try refine zH ?_)<;>intro hcond<;>try exact zX)|fail)
    simp [Rets, aret, Blk.cells, ty, Tryz.results107, ares, toT1, toT, borrow, borrow0, capCell, toTree0]
theorem copied_ok (g : G) (hl : g.es.length ≤ 40) : ACall Tryz.prog 63 [tG g] (tG g) := by
  obtain ⟨n, es⟩ := g
  simp only at hl
  by_cases he : es = []
  · subst he
    have hN := CloneE_none
    refine ACall.of_body Tryz.func63 rfl (by kernel_rfl) ?_
    simp only [entry, Tryz.ntmps63, tG, eRows]
    refine zU ?_
    refine zR trivial (zc hN trivial) trivial ?_
    simp [Rets, aret, Blk.cells, ty, Tryz.results63, ares, toT1, toT, borrow, borrow0, capCell, toTree0, tG, eRows]
  · have hC := CloneE_ok es he (by omega)
    refine ACall.of_body Tryz.func63 rfl (by kernel_rfl) ?_
    simp only [entry, Tryz.ntmps63, tG]
    refine zU ?_
    refine zR trivial (zc hC trivial) trivial ?_
    simp [Rets, aret, Blk.cells, ty, Tryz.results63, ares, toT1, toT, borrow, borrow0, capCell, toTree0, tG]
theorem rDefault_ok (g : G) (hl : g.es.length ≤ 40) : ACall Tryz.prog 28 [tG g] (.tup [tR (if joinedE g ≠ 0 then ⟨0, [], []⟩ else ⟨g.n, g.es, halvesL (endsL g.es) g.n.toNat (2 * (endsL g.es).length)⟩), tint (joinedE g)]) := by
  have hJ := rjoined_ok g hl
  have hC := copied_ok g hl
  by_cases hj : joinedE g = 0
  case neg =>
    rw [if_pos hj]
    have hL : ∃ L, (if checkG g ≠ 0 then [] else endsL g.es) = L := ⟨_, rfl⟩
    obtain ⟨L, hL⟩ := hL
    rw [hL] at hJ
    generalize joinedE g = E at *
    obtain ⟨n, es⟩ := g
    refine ACall.of_body Tryz.func28 rfl (by kernel_rfl) ?_
    simp only [entry, Tryz.ntmps28, tG]
    refine zU ?_
    refine zR (zc @hj trivial) (zc hJ trivial) trivial ?_
    simp [Rets, aret, Blk.cells, ty, Tryz.results28, ares, toT1, toT, borrow, borrow0, capCell, toTree0, tint, tR, eRows, llRows]
  have hc : checkG g = 0 := by
    unfold joinedE at hj
    by_cases h : checkG g = 0
    · exact h
    · rw [if_pos h] at hj; exact absurd hj h
  have h12 := (checkG_zero.1 hc).1
  have hlen := ends_len hl hc
  rw [if_neg (by omega), hj] at hJ
  rw [if_neg (by omega), hj]
  have hat : ∀ h, h < 2 * (endsL g.es).length → 0 ≤ atL (endsL g.es) h ∧ atL (endsL g.es) h < (g.n.toNat : Nat) := fun h hh => by
    have := atL_range (r := ⟨g.n, g.es, []⟩) hc hh
    have h1 : (⟨g.n, g.es, []⟩ : R).n = g.n := rfl
    have h2 : (⟨g.n, g.es, []⟩ : R).es = g.es := rfl
    rw [h1, h2] at this
    omega
  have hH := halves_ok (endsL g.es) g.n.toNat (by omega) (by omega) hat
  rw [show ((g.n.toNat : Nat) : Int) = g.n by omega] at hH
  clear hat hc hj
  obtain ⟨n, es⟩ := g
  simp only at hH hJ ⊢
  generalize halvesL (endsL es) n.toNat (2 * (endsL es).length) = hs at *
  generalize endsL es = L at *
  refine ACall.of_body Tryz.func28 rfl (by kernel_rfl) ?_
  simp only [entry, Tryz.ntmps28, tG]
  refine zU ?_
  refine zR trivial (zc hJ (zc hC (zc hH trivial))) trivial ?_
  simp [Rets, aret, Blk.cells, ty, Tryz.results28, ares, toT1, toT, borrow, borrow0, capCell, toTree0, tint, tR]
end Go.Proofs.YtfkegnhpihoncaaGreat
