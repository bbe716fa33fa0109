/- A part of the proof. -/
import Derived.Test.YtgklecfiflhjmaaPart19
import Derived.Test.YtgklecfiflhjmaaPart15
import Derived.Test.YtgklecfiflhjmaaPart08
import Derived.Test.YtgklecfiflhjmaaPart06
import Derived.Test.YtgklecfiflhjmaaPart09
import Derived.Test.YtgklecfiflhjmaaPart13
import Derived.Test.YtgklecfiflhjmaaLayerC
import Derived.Test.YtgklecfiflhjmaaPart02
set_option linter.all false
set_option maxHeartbeats 4000000
set_option maxRecDepth 100000
namespace Go.Proofs.Ytgklecfiflhjmaa
open Go.Sp
def edgE (g : G) (l : List Int) : Int := if checkG g ≠ 0 then checkG g else subE (endsL g.es).length none l
theorem cEdges_ok (g : G) (l : List Int) (hg : g.es.length ≤ 40) (hl : l.length < 2 ^ 40) : ACall Try.prog 35 [tG g, tints l] (tint (edgE g l)) := by
 have hS := Size_ok g (by omega)
 unfold edgE
 by_cases hc : checkG g = 0
 case neg =>
  rw [if_pos hc]
  rw [if_pos hc] at hS
  generalize checkG g = E at *
  obtain ⟨n, es⟩ := g
  refine ACall.of_body Try.func35 rfl (by kernel_rfl) ?_
  simp only [entry, Try.ntmps35, tG, tints]
  refine zU ?_
  refine zR (zc @hc trivial) (zc hS trivial) trivial ?_
  simp [Rets, aret, Blk.cells, ty, Try.results35, ares, toT1, toT, borrow, borrow0, capCell, toTree0, tint]
 rw [if_neg (by omega)]
 rw [if_neg (by omega), hc] at hS
 have hlen := ends_len hg hc
 generalize (endsL g.es).length = N at *
 clear hc hg
 obtain ⟨n, es⟩ := g
 refine ACall.of_body Try.func35 rfl (by kernel_rfl) ?_
 simp only [entry, Try.ntmps35, tG, tints]
 refine zU ?_
 refine zR (zc @iRows_len trivial) (zc hS trivial) trivial ?_
 refine AWp.loopS (α:=Nat) 45 (fun k=>[(1,.c (.slice (iRows l) .none)),(2,.c (.ptr 0 0)),(5,.c (.int .i64 (N : Int))),(17,.c (.slice (iRows l) .none)),(18,.c (.int .i64 l.length)),(19,.c (.int .i64 (k : Int)))]) (fun k=>[.box [.int .i64 n, .slice (eRows es) .none]]) (fun k=>k ≤ l.length ∧ subE N none l = subE N (match k with | 0 => none | j + 1 => l[j]?) (l.drop k)) (fun k=>l.length - k) (0) (hk:=Weak.headL 1 45 [1, 2, 5, 17, 18, 19] zW) (h0:=?_) (round:=fun k hI=>?_)
 ·exact ⟨Nat.zero_le _, rfl⟩
 ·obtain ⟨hk, hx⟩ := hI
  by_cases hlt : k < l.length
  ·have hltI : (k : Int) < l.length := by omega
   have e0 := List.getElem?_eq_getElem hlt
   have e1 := iRows_get e0
   rw [List.drop_eq_getElem_cons hlt, subE] at hx
   generalize hv : l[k] = v at *
   by_cases v0 : v < 0
   ·rw [if_pos (by omega)] at hx
    rw [hx]
    refine zR (zc @hltI (zc @e1 (zc @v0 trivial))) trivial trivial ?_
    simp [Rets, aret, Blk.cells, ty, Try.results35, ares, toT1, toT, borrow, borrow0, capCell, toTree0, tint]
   by_cases v1 : (N : Int) ≤ v
   ·rw [if_pos (by omega)] at hx
    rw [hx]
    refine zR (zc @hltI (zc @e1 (zc @v0 (zc @v1 trivial)))) trivial trivial ?_
    simp [Rets, aret, Blk.cells, ty, Try.results35, ares, toT1, toT, borrow, borrow0, capCell, toTree0, tint]
   rw [if_neg (by omega)] at hx
   cases k with
   | zero =>
    simp only [reduceCtorEq, false_and, exists_false, if_false] at hx
    refine zR (zc @hltI (zc @e1 (zc @v0 (zc @v1 trivial)))) trivial trivial ?_
    refine ⟨0 + 1,Weak.headN 1 45 [1, 2, 5, 17, 18, 19] zW,?_,?_⟩
    ·exact ⟨hlt, hx.trans (by simp only [e0])⟩
    ·omega
   | succ j =>
    have e2 := List.getElem?_eq_getElem (show j < l.length by omega)
    have e3 := iRows_get e2
    have hj1 : ((j + 1 : Nat) : Int) - 1 = (j : Int) := by omega
    have hj2 : (0 : Int) < ((j + 1 : Nat) : Int) := by omega
    have hj3 : (j : Int) < l.length := by omega
    simp only [e2, Option.some.injEq, exists_eq_left'] at hx
    generalize hu : l[j] = u at *
    by_cases hvu : v ≤ u
    ·rw [if_pos hvu] at hx
     rw [hx]
     refine zR (zc @hltI (zc @e1 (zc @e3 (zc @hj1 (zc @hj2 (zc @hj3 (zc @iRows_len (zc @v0 (zc @v1 (zc @hvu trivial)))))))))) trivial trivial ?_
     simp [Rets, aret, Blk.cells, ty, Try.results35, ares, toT1, toT, borrow, borrow0, capCell, toTree0, tint]
    ·rw [if_neg hvu] at hx
     refine zR (zc @hltI (zc @e1 (zc @e3 (zc @hj1 (zc @hj2 (zc @hj3 (zc @iRows_len (zc @v0 (zc @v1 (zc @hvu trivial)))))))))) trivial trivial ?_
     refine ⟨j + 1 + 1,Weak.headN 1 45 [1, 2, 5, 17, 18, 19] zW,?_,?_⟩
     ·exact ⟨hlt, hx.trans (by simp only [e0])⟩
     ·omega
  ·have e : k = l.length := by omega
   have e : subE N none l = 0 := by rw [hx, e, List.drop_length]; rfl
   have hnl : ¬ ((k : Int) < l.length) := by omega
   rw [e]
   refine zR (zc @hnl trivial) trivial trivial ?_
   simp [Rets, aret, Blk.cells, ty, Try.results35, ares, toT1, toT, borrow, borrow0, capCell, toTree0, tint]
noncomputable def withG (g : G) (t : List Int) : G := ⟨g.n, sortE (bagL (pkL (endsL g.es) t))⟩
theorem bag_mem {n : Int} {M : List (Int × Int)} (hM : ∀ p, p ∈ M → okP n p) {x y : Int} : (x, y) ∈ endsL (sortE (bagL M)) ↔ ∃ p, p ∈ M ∧ min p.1 p.2 = x ∧ max p.1 p.2 = y := by
 have hb := bag_ok hM M.length (Nat.le_refl _)
 have hcnt : ∀ a b, cntL (bagL M) a b = (M.countP (isP a b) : Int) := fun a b => by
  have e := cntL_bag M a b M.length (Nat.le_refl _)
  rwa [List.take_length] at e
 rw [List.take_length] at hb
 constructor
 ·intro h
  obtain ⟨e, he, hx⟩ := endsL_mem h
  have he' := (sortE_perm (bagL M)).mem_iff.1 he
  have hc := cntL_of_mem hb.d he'
  have hm := hb.m e he'
  rw [hcnt] at hc
  have hpos : 0 < M.countP (isP e.a e.b) := by omega
  obtain ⟨p, hp, hq⟩ := List.countP_pos_iff.1 hpos
  unfold isP at hq
  simp only [decide_eq_true_eq] at hq
  cases hx
  exact ⟨p, hp, hq.1, hq.2⟩
 ·rintro ⟨p, hp, rfl, rfl⟩
  have hpos : 0 < M.countP (isP (min p.1 p.2) (max p.1 p.2)) := List.countP_pos_iff.2 ⟨p, hp, by unfold isP; simp⟩
  have hne : cntL (bagL M) (min p.1 p.2) (max p.1 p.2) ≠ 0 := by rw [hcnt]; omega
  have hmem := mem_of_cntL hne
  have hm := hb.m _ hmem
  exact List.mem_flatMap.2 ⟨_, (sortE_perm (bagL M)).mem_iff.2 hmem, List.mem_replicate.2 ⟨by simp only at hm ⊢; omega, rfl⟩⟩
theorem conn_sub {l m : List (Int × Int)} (h : ∀ x y, (x, y) ∈ l → (x, y) ∈ m ∨ (y, x) ∈ m) {u w : Nat} (hc : Conn l u w) : Conn m u w := by
 induction hc with
 | refl => exact .refl
 | step _ hs ih =>
  rcases hs with hs | hs
  ·rcases h _ _ hs with q | q
   ·exact ih.step (.inl q)
   ·exact ih.step (.inr q)
  ·rcases h _ _ hs with q | q
   ·exact ih.step (.inr q)
   ·exact ih.step (.inl q)
theorem bag_conn {n : Int} {M : List (Int × Int)} (hM : ∀ p, p ∈ M → okP n p) {u w : Nat} : Conn (endsL (sortE (bagL M))) u w ↔ Conn M u w := by
 constructor
 ·refine conn_sub fun x y hxy => ?_
  obtain ⟨p, hp, rfl, rfl⟩ := (bag_mem hM).1 hxy
  obtain ⟨a, b⟩ := p
  rcases Int.le_total a b with h | h
  ·rw [Int.min_eq_left h, Int.max_eq_right h]; exact .inl hp
  ·rw [Int.min_eq_right h, Int.max_eq_left h]; exact .inr hp
 ·refine conn_sub fun x y hxy => ?_
  have := (bag_mem hM (x := min x y) (y := max x y)).2 ⟨(x, y), hxy, rfl, rfl⟩
  rcases Int.le_total x y with h | h
  ·rw [Int.min_eq_left h, Int.max_eq_right h] at this; exact .inl this
  ·rw [Int.min_eq_right h, Int.max_eq_left h] at this; exact .inr this
theorem pick_ok {g : G} (hc : checkG g = 0) {t : List Int} (ht : ∀ x, x ∈ t → 0 ≤ x ∧ x < (endsL g.es).length) : ∀ p, p ∈ pkL (endsL g.es) t → okP g.n p := fun p hp => by
 have h12 := (checkG_zero.1 hc).1
 have := pkL_in (n := g.n.toNat) (L := endsL g.es) (fun p hp => ends_in hc (by omega) p hp) ht p hp
 unfold okP; omega
theorem bag_check {n : Int} (hn : 1 ≤ n ∧ n ≤ 12) {M : List (Int × Int)} (hM : ∀ p, p ∈ M → okP n p) (hl : M.length ≤ 50) : checkG ⟨n, sortE (bagL M)⟩ = 0 ∧ (sortE (bagL M)).length ≤ M.length := by
 have hb := bag_ok hM M.length (Nat.le_refl _)
 rw [List.take_length] at hb
 refine ⟨checkG_zero.2 ⟨hn, fun e he => ?_, sortE_sorted hb.d⟩, ?_⟩
 ·have he' := (sortE_perm (bagL M)).mem_iff.1 he
  have h1 := hb.m e he'
  have h2 := hb.r e he'
  unfold okE; simp only; omega
 ·rw [(sortE_perm (bagL M)).length_eq]; exact hb.len
theorem with_make {g : G} (hc : checkG g = 0) {t : List Int} (ht : ∀ x, x ∈ t → 0 ≤ x ∧ x < (endsL g.es).length) (hl : t.length ≤ 50) : makeE g.n (pkL (endsL g.es) t) = (withG g t, 0) := by
 have h12 := (checkG_zero.1 hc).1
 have hM := pick_ok hc ht
 have hb := bag_ok hM _ (Nat.le_refl _)
 rw [List.take_length] at hb
 unfold makeE withG
 rw [if_neg (by omega), if_neg (by rw [pkL_len]; omega), if_neg (by
  rintro ⟨p, hp, hx⟩; exact hx (hM p hp)), if_neg (by
  rintro ⟨e, he, hx⟩
  have := hb.m e he
  rw [pkL_len] at this; omega)]
theorem With_ok (g : G) (t : List Int) (hg : g.es.length ≤ 40) (hc : checkG g = 0) (ht : ∀ x, x ∈ t → 0 ≤ x ∧ x < (endsL g.es).length) (hl : t.length ≤ 50) : ACall Try.prog 37 [tG g, tints t] (tG (withG g t)) := by
 have hE := refEnds_ok g hg hc
 have hM := MakeR_ok g.n (pkL (endsL g.es) t) (by rw [pkL_len]; omega)
 rw [with_make hc ht hl] at hM
 have hlen := ends_len hg hc
 generalize withG g t = W at *
 obtain ⟨wn, wes⟩ := W
 generalize endsL g.es = L at *
 clear hc hg
 obtain ⟨n, es⟩ := g
 simp only at hM ⊢
 refine ACall.of_body Try.func37 rfl (by kernel_rfl) ?_
 simp only [entry, Try.ntmps37, tG, tints]
 refine zU ?_
 repeat' ((fail_if_success (with_reducible refine AWp.atSeq 3 ?_));(fail_if_success (with_reducible refine AWp.atLast 3 ?_));first|((first|(refine zT ?_;intro K' hK')|(refine zG ?_ ?_<;>(try refine zH ?_)<;>intro hguard<;>(try exact zX)<;>try intro K' hK'))<;>((try simp +contextual only [go_sem]);(repeat' first|(with_reducible refine hK' _ _ ?_;clear hK' K')|(with_reducible refine zK hE ?_;try simp +contextual only [go_sem])|exact zY|with_reducible refine And.intro ?_ ?_|(with_reducible intro hpath;try exact zP)|(refine hK' _ _ ?_;clear hK' K')|fail);try refine zS ?_))|(refine zE ?_;refine hK _ _ ?_;clear hK K)|(refine zN ?_;try refine zS ?_)|refine zA ?_|(refine zB ?_;intro K hK)|(refine zC ?_ ?_<;>(try refine zH ?_)<;>intro hcond<;>try exact zX)|fail)
 refine AWp.weak (Weak.opens ((fun t f => [f, f, f, f, f, f, t, f, f, f, f, f, f, f, f, f, f, f, f, f, f, f, f, f, f, f, f, f, f, f, f, f, f, f, f, f]) true false) 2 (by first | omega | simp)) ?_
 simp only [openS, openV, List.length_cons, List.length_nil, List.length_append, Nat.reduceAdd, List.cons_append, List.nil_append]
 refine zR trivial trivial trivial ?_
 refine AWp.loopS (α:=Nat) 36 (fun i=>[(1,.c (.slice (iRows t) .none)),(2,.c (.ptr 0 0)),(4,.c (.ptr 1 0)),(5,.c (.slice (pRows L) .none)),(6,.c (.slice (pRows (pkL L (t.take i))) (.chain 2))),(7,.c (.int .i64 (i : Int)))]) (fun i=>[.box [.int .i64 n, .slice (eRows es) .none], .box [.int .i64 0, .nils], .chain (pkL L (t.take i)).length 2]) (fun i=>i ≤ t.length) (fun i=>t.length - i) (0) (hk:=Weak.headL 3 36 [1, 2, 4, 5, 6, 7] zW) (h0:=?_) (round:=fun i hI=>?_)
 ·exact Nat.zero_le _
 ·have hi : i ≤ t.length := hI
  clear hI
  have htl : (pkL L (t.take i)).length = i := by rw [pkL_len, List.length_take]; omega
  by_cases hlt : i < t.length
  ·have hltI : (i : Int) < t.length := by omega
   have e0 := List.getElem?_eq_getElem hlt
   have e1 := iRows_get e0
   have hsn : pkL L (t.take (i + 1)) = pkL L (t.take i) ++ [L.getD t[i].toNat (0, 0)] := by
    unfold pkL; rw [List.take_succ_eq_append_getElem hlt, List.map_append]; rfl
   have hx := ht _ (List.getElem_mem hlt)
   have htl2 : (pkL L (t.take (i + 1))).length = i + 1 := by rw [pkL_len, List.length_take]; omega
   generalize t[i] = x at *
   obtain ⟨z, rfl⟩ := Int.eq_ofNat_of_zero_le hx.1
   have hzl : z < L.length := by have := hx.2; omega
   have hzI : (z : Int) < (L.length : Int) := by omega
   have g0 := List.getElem?_eq_getElem hzl
   have g1 := pRows_get g0
   rw [show ((z : Nat) : Int).toNat = z from rfl, List.getD_eq_getElem?_getD, g0, Option.getD_some] at hsn
   have hps : pRows (pkL L (t.take i)) ++ [[.int .i64 L[z].1, .int .i64 L[z].2]] = pRows (pkL L (t.take (i + 1))) := by rw [hsn]; simp [pRows, pRow]
   generalize L[z] = p at *
   obtain ⟨a, b⟩ := p
   change (iRows t)[i]? = some [.int .i64 (z : Int)] at e1
   simp only at hps g1
   generalize hM2 : pkL L (t.take (i + 1)) = M2 at *
   generalize pkL L (t.take i) = M1 at *
   refine zRc (zc @hltI (zc @e1 (zc @g1 (zc @hzI (zc @hps (zc @pRows_len (zc @iRows_len (zc @htl trivial)))))))) trivial @pRows_k' ?_
   refine ⟨i + 1,Weak.headF 3 36 [1, 2, 4, 5, 6, 7] (zc @hM2 (zc @htl2 (zc @htl trivial))) zW,?_,?_⟩
   ·exact hlt
   ·omega
  ·have ei : i = t.length := by omega
   have hnl : ¬ ((i : Int) < (t.length : Int)) := by omega
   have eT : t.take i = t := by rw [ei, List.take_length]
   rw [eT] at htl ⊢
   generalize pkL L t = M at *
   refine zR (zc @hnl (zc @iRows_len trivial)) (zc hM trivial) trivial ?_
   simp [Rets, aret, Blk.cells, ty, Try.results37, ares, toT1, toT, borrow, borrow0, capCell, toTree0, tG]
theorem with_conn {g : G} (hc : checkG g = 0) {t : List Int} (ht : ∀ x, x ∈ t → 0 ≤ x ∧ x < (endsL g.es).length) {u w : Nat} : Conn (endsL (withG g t).es) u w ↔ Conn (pkL (endsL g.es) t) u w := bag_conn (pick_ok hc ht)
theorem with_check {g : G} (hc : checkG g = 0) {t : List Int} (ht : ∀ x, x ∈ t → 0 ≤ x ∧ x < (endsL g.es).length) (hl : t.length ≤ 50) : checkG (withG g t) = 0 ∧ (withG g t).es.length ≤ t.length := by
 have h := bag_check (checkG_zero.1 hc).1 (pick_ok hc ht) (by rw [pkL_len]; exact hl)
 rw [pkL_len] at h
 exact h
end Go.Proofs.Ytgklecfiflhjmaa
