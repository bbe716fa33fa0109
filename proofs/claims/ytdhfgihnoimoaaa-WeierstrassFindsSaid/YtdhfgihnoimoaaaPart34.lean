/- A part of the proof. -/
import Derived.Test.YtdhfgihnoimoaaaLayerC
import Derived.Test.YtdhfgihnoimoaaaPart33
import Derived.Test.YtdhfgihnoimoaaaPart31
set_option linter.all false
set_option maxHeartbeats 4000000
set_option maxRecDepth 100000
namespace Go.Proofs.Ytdhfgihnoimoaaa
open Go.Sp
theorem of_box1 {n : Nat} {es es2 : List E} {G : Int} (g : Gok n es) (hl2 : es2.length ≤ es.length) (hlim : limG ⟨(n : Int), es⟩ 50 = ⟨(n : Int), es2⟩) (hc2 : checkG ⟨(n : Int), es2⟩ = 0) (hgen : genL (endsL es2) = G) :
  ACallH Try.prog 65 [.box [.int .i64 (n : Int), .slice (eRows es) .none]] [.agg [.int .i64 (n : Int), .slice (eRows es) .none]] (.box [.int .i64 (n : Int), .slice (eRows es) .none] :: .box [.int .i64 (n : Int), .slice (eRows es) .none] :: .box [.int .i64 (n : Int), .slice (eRows es2) .none] :: .map ([]) :: .box [.int .i64 (n : Int), .slice (eRows es) .none, .int .i64 G, .map 3] :: ([])) (.tup [.c (.ptr 4 0), .c (.int .i64 0)]) := by
 have hl := g.hl
 have hL : ACall Try.prog 58 [tG ⟨(n : Int), es⟩] (.tup [tG ⟨(n : Int), es2⟩, tint 0]) := by
  have := Loopless_ok ⟨(n : Int), es⟩ (by show es.length < _; omega)
  rw [g.hc, hlim] at this; exact this
 have hG : ACall Try.prog 59 [tG ⟨(n : Int), es2⟩] (.tup [tint G, tint 0]) := by
  have := Genus_ok ⟨(n : Int), es2⟩ (by show es2.length < _; omega)
  rw [hc2] at this
  rw [← hgen]; exact this
 clear hlim hc2 hgen
 refine ACallH.of_body Try.func65 rfl (by kernel_rfl) ?_
 simp only [entry, Try.ntmps65, List.length_cons, List.length_nil, Nat.reduceAdd, Nat.reduceSub, List.replicate_succ, List.replicate_zero, List.cons_append, List.nil_append]
 repeat' ((fail_if_success (with_reducible refine AWp.atSeq 99 ?_));(fail_if_success (with_reducible refine AWp.atLast 99 ?_));first|((first|(refine zT ?_;intro K' hK')|(refine zG ?_ ?_<;>(try refine zH ?_)<;>intro hguard<;>(try exact zX)<;>try intro K' hK'))<;>((try simp +contextual only [go_sem, tG]);(repeat' first|(with_reducible refine hK' _ _ ?_;clear hK' K')|((with_reducible first|refine zK hL ?_|refine zK hG ?_);try simp +contextual only [go_sem, tG])|exact zY|with_reducible refine And.intro ?_ ?_|(with_reducible intro hpath;try exact zP)|(refine hK' _ _ ?_;clear hK' K')|fail);try refine zS ?_))|(refine zE ?_;refine hK _ _ ?_;clear hK K)|(refine zN ?_;try refine zS ?_)|refine zA ?_|(refine zB ?_;intro K hK)|(refine zC ?_ ?_<;>(try refine zH ?_)<;>intro hcond<;>try exact zX)|fail)
 simp [RetsH, aretH, ares, noTup, Try.results65]
theorem Rank_good {n : Nat} {es : List E} {B0 : Int} {N : Nat} (c : RkC n es (sizeE es - n + 1) B0 N) (d : List Int) (hd : d.length = n) (hb : bndL B0 d) : ACall Try.prog 44 [tG ⟨(n : Int), es⟩, tints d] (.tup [tint (rkD n (mulE es) fun v => d.getD v 0), tint 0]) := by
 have g := c.g
 obtain ⟨es2, l2, hlim, hc2, hgen, _⟩ := lim_ok g
 have hdb : bndL 1048576 d := (c.dok hd hb).small
 have hGv : ACall Try.prog 64 [tG ⟨(n : Int), es⟩, .t (.slice (llRows [d]))] (tint 0) := rgiven_ok g [d] (by show 1 < 2 ^ 20; decide) (fun x hx => by rw [List.mem_singleton] at hx; subst hx; exact ⟨hd, hdb⟩)
 have hOf := of_box1 (es2 := es2) g l2 hlim hc2 hgen
 have hrec := rank_rec (es2 := es2) c _ d [] [] (.slice (iRows d) .none) (MOk.nil n es N) hd hb (Nat.le_refl _) rfl (fun b hb => by cases hb)
 generalize rkD n (mulE es) (fun v => d.getD v 0) = rk at *
 generalize sizeE es - n + 1 = G at *
 simp only [llRows, List.map_cons, List.map_nil] at hGv
 refine ACall.of_body Try.func44 rfl (by kernel_rfl) ?_
 simp only [entry, Try.ntmps44, tG, tints, tint]
 refine zU ?_
 repeat' (first|((with_reducible refine AWp.seq (AWp.of_reg (id:=7) (AReg.pre 2 (fun K hK=>?_))));simp only [List.take_succ_cons,List.take_zero])|((with_reducible refine AWp.of_reg (id:=7) (AReg.pre 2 (fun K hK=>?_)));simp only [List.take_succ_cons,List.take_zero])|((first|(refine zT ?_;intro K' hK')|(refine zG ?_ ?_<;>(try refine zH ?_)<;>intro hguard<;>(try exact zX)<;>try intro K' hK'))<;>((try simp +contextual only [go_sem, chunks, List.range, List.range.loop]);(repeat' first|(with_reducible refine hK' _ _ ?_;clear hK' K')|((with_reducible first|refine zK hGv ?_|refine ⟨_,_,hOf,?_⟩|refine ⟨_,hOf,?_⟩);try simp +contextual only [go_sem, chunks, List.range, List.range.loop])|exact zY|with_reducible refine And.intro ?_ ?_|(with_reducible intro hpath;try exact zP)|(refine hK' _ _ ?_;clear hK' K')|fail);try refine zS ?_))|(refine zE ?_;refine hK _ _ ?_;clear hK K)|(refine zN ?_;try refine zS ?_)|refine zA ?_|(refine zB ?_;intro K hK)|(refine zC ?_ ?_<;>(try refine zH ?_)<;>intro hcond<;>try exact zX)|fail)
 simp only [List.drop_succ_cons, List.drop_zero]
 refine AReg.callE rfl rfl rfl rfl hrec (fun H' r hr => ?_)
 obtain ⟨M2, hM2, rfl, rfl⟩ := hr
 simp only [aput, List.set_cons_succ, List.set_cons_zero]
 refine AReg.rest (fun K hK => ?_)
 repeat' ((fail_if_success (with_reducible refine AWp.atSeq 99 ?_));(fail_if_success (with_reducible refine AWp.atLast 99 ?_));first|((first|(refine zT ?_;intro K' hK')|(refine zG ?_ ?_<;>(try refine zH ?_)<;>intro hguard<;>(try exact zX)<;>try intro K' hK'))<;>((try simp +contextual only [go_sem]);(repeat' first|(with_reducible refine hK' _ _ ?_;clear hK' K')|exact zY|with_reducible refine And.intro ?_ ?_|(with_reducible intro hpath;try exact zP)|(refine hK' _ _ ?_;clear hK' K')|fail);try refine zS ?_))|(refine zE ?_;refine hK _ _ ?_;clear hK K)|(refine zN ?_;try refine zS ?_)|refine zA ?_|(refine zB ?_;intro K hK)|(refine zC ?_ ?_<;>(try refine zH ?_)<;>intro hcond<;>try exact zX)|fail)
 simp [Rets, aret, Blk.cells, ty, Try.results44, ares, toT1, toT, borrow, borrow0, capCell, toTree0, tint]
theorem lst_entry {n k : Nat} {l : List Int} (h : l ∈ lstD (n + 1) k) (v : Nat) : 0 ≤ l.getD v 0 ∧ l.getD v 0 ≤ k := by
 obtain ⟨h1, h2, h3⟩ := mem_lstD.1 h
 by_cases hv : v < n + 1
 ·have e0 : ∀ i, i < n + 1 → 0 ≤ l.getD i 0 := fun i hi => by rw [getD_get_eq (by omega)]; exact h2 _ (List.getElem_mem _)
  have := sumR_one_le (f := fun v => l.getD v 0) (n := n + 1) e0 hv
  rw [← h1, sumR_sumL, h3] at this
  exact ⟨e0 v hv, this⟩
 ·rw [List.getD_eq_getElem?_getD, List.getElem?_eq_none (by omega)]; simp
noncomputable def failB (n : Nat) (es : List E) (d : List Int) (l : List Int) : Bool := !winB n es (minL d l)
theorem failL_eq (n : Nat) (es : List E) (d : List Int) (k : Nat) : failL n (mulE es) d k = (lstD n k).find? (failB n es d) := rfl
theorem minL_bnd {a b : List Int} {A C : Int} (ha : bndL A a) (hb : bndL C b) : bndL (A + C) (minL a b) := fun v => by
 have h1 := ha v
 have h2 := hb v
 have h3 := ha 0
 by_cases hv : v < a.length
 ·rw [minL_get _ _ hv]; omega
 ·rw [List.getD_eq_getElem?_getD, List.getElem?_eq_none (by rw [minL_len]; omega)]; simp; have := hb 0; omega
theorem Fails_ok {n : Nat} {es : List E} (g : Gok n es) (hn6 : n ≤ 6) (hsz : sizeE es ≤ 1000) {d : List Int} (hd : d.length = n) (hb : bndL 500 d) {k : Nat} (hk : k ≤ 40) :
  ACall Try.prog 72 [tG ⟨(n : Int), es⟩, tints d, tint k] (.tup [tints ((failL n (mulE es) d k).getD []), tbool (failL n (mulE es) d k).isSome]) := by
 have h1 := g.h1
 rw [failL_eq]
 obtain ⟨m, rfl⟩ : ∃ m, n = m + 1 := ⟨n - 1, by omega⟩
 have hLs := Listed_ok 40 (by decide) m (by
  have : (40 + 1) ^ m ≤ 41 ^ 5 := Nat.pow_le_pow_right (by decide) (by omega)
  exact Nat.le_trans this (by decide)) (by omega) k hk
 have hmem : ∀ l, l ∈ lstD (m + 1) k → l.length = m + 1 ∧ ∀ v, 0 ≤ l.getD v 0 ∧ l.getD v 0 ≤ k := fun l hl => ⟨(mem_lstD.1 hl).1, fun v => lst_entry hl v⟩
 have hPl : ∀ l, l ∈ lstD (m + 1) k → ACall Try.prog 94 [tints d, tints l, tint (-1)] (tints (minL d l)) := fun l hl => by
  obtain ⟨q1, q2⟩ := hmem l hl
  exact Plus_ok d l (n := m + 1) (by omega) (by omega) hd q1 (bndL_mono hb (by decide)) (fun v => by have := q2 v; omega)
 have hWn : ∀ l, l ∈ lstD (m + 1) k → ACall Try.prog 93 [tG ⟨((m + 1 : Nat) : Int), es⟩, tints (minL d l)] (tbool (winB (m + 1) es (minL d l))) := fun l hl => by
  obtain ⟨q1, q2⟩ := hmem l hl
  exact Wins_ok g (by rw [minL_len]; exact hd) (bndL_mono (minL_bnd hb (C := 40) fun v => by have := q2 v; omega) (by decide)) hsz
 have hfB : ∀ l, failB (m + 1) es d l = !winB (m + 1) es (minL d l) := fun _ => rfl
 have hLl : (lstD (m + 1) k).length < 2 ^ 40 := by
  have h2 := lstD_len m k 40 hk
  have : (40 + 1) ^ m ≤ 41 ^ 5 := Nat.pow_le_pow_right (by decide) (by omega)
  have h3 : (41 : Nat) ^ 5 < 2 ^ 40 := by decide
  omega
 generalize lstD (m + 1) k = L at *
 refine ACall.of_body Try.func72 rfl (by kernel_rfl) ?_
 simp only [entry, Try.ntmps72, tG, tints, tint]
 refine zU ?_
 refine zR trivial (zc hLs trivial) trivial ?_
 refine AWp.loopS (α:=Nat) 33 (fun i=>[(1,.c (.slice (iRows d) .none)),(3,.c (.ptr 0 0)),(8,.c (.slice (llRows L) .none)),(9,.c (.int .i64 (i : Int)))]) (fun i=>[.box [.int .i64 ((m + 1 : Nat) : Int), .slice (eRows es) .none]]) (fun i=>i ≤ L.length ∧ L.find? (failB (m + 1) es d) = (L.drop i).find? (failB (m + 1) es d)) (fun i=>L.length - i) (0) (hk:=Weak.headL 1 33 [1, 3, 8, 9] (zV2 @iC_in @bC_inS)) (h0:=?_) (round:=fun i hI=>?_)
 ·exact ⟨Nat.zero_le _, by rw [List.drop_zero]⟩
 ·obtain ⟨hi, hf⟩ := hI
  by_cases hil : i < L.length
  ·have hiI : (i : Int) < (L.length : Int) := by omega
   have e0 := List.getElem?_eq_getElem hil
   have e1 := llRows_get e0
   have hP := hPl _ (List.getElem_mem hil)
   have hW := hWn _ (List.getElem_mem hil)
   have hfb := hfB L[i]
   rw [List.drop_eq_getElem_cons hil, List.find?_cons] at hf
   generalize L[i] = l at *
   generalize minL d l = x at *
   cases hb2 : winB (m + 1) es x with
   | true =>
    rw [hb2] at hW hfb
    rw [hfb] at hf
    simp only [Bool.not_true] at hf
    clear hPl hWn hfb
    refine zR (zc @hiI (zc @e1 (zc @llRows_len trivial))) (zc hP (zc hW trivial)) trivial ?_
    refine ⟨i + 1,Weak.headN 1 33 [1, 3, 8, 9] (zV2 @iC_in @bC_inS),?_,?_⟩
    ·exact ⟨hil, hf⟩
    ·omega
   | false =>
    rw [hb2] at hW hfb
    rw [hfb] at hf
    simp only [Bool.not_false] at hf
    clear hPl hWn hfb
    rw [hf]
    refine zR (zc @hiI (zc @e1 (zc @llRows_len trivial))) (zc hP (zc hW trivial)) trivial ?_
    simp [Rets, aret, Blk.cells, ty, Try.results72, ares, toT1, toT, borrow, borrow0, capCell, toTree0, tbool, tints]
  ·have hnl : ¬ (i : Int) < (L.length : Int) := by omega
   rw [List.drop_eq_nil_of_le (by omega), List.find?_nil] at hf
   rw [hf]
   refine zR (zc @hnl (zc @llRows_len trivial)) trivial trivial ?_
   simp [Rets, aret, Blk.cells, ty, Try.results72, ares, toT1, toT, borrow, borrow0, capCell, toTree0, tbool, tints, iRows]
theorem Of_ok {n : Nat} {es : List E} (g : Gok n es) (hn6 : n ≤ 6) (hsz : sizeE es ≤ 1000) {d : List Int} (hd : d.length = n) (hb : bndL 500 d) (hdeg : sumD d n ≤ 30) :
  ACall Try.prog 50 [tG ⟨(n : Int), es⟩, tints d] (tint (rkD n (mulE es) fun v => d.getD v 0)) := by
 have h1 := g.h1
 have hM := g.hM
 have hT := Total_ok d hd (by omega) (bndL_mono hb (by decide))
 have hF := fun (k : Nat) (hk : k ≤ 40) => Fails_ok g hn6 hsz hd hb hk
 have hsb : -(500 * n : Int) ≤ sumD d n := (sumR_bnd hb n).1
 have hrk := fun {r : Nat} => rk_at (n := n) (M := mulE es) hM (by omega) hd (r := r)
 have hsD : sumR (fun v => d.getD v 0) n = sumD d n := rfl
 rw [hsD] at hrk
 have hf1 : ∀ k, (failL n (mulE es) d k).isSome = false → failL n (mulE es) d k = none := fun k h => by simpa using h
 generalize rkD n (mulE es) (fun v => d.getD v 0) = rk at *
 generalize sumD d n = sm at *
 refine ACall.of_body Try.func50 rfl (by kernel_rfl) ?_
 simp only [entry, Try.ntmps50, tG, tints, tint]
 refine zU ?_
 refine zR trivial trivial trivial ?_
 refine AWp.loopS (α:=Nat) 25 (fun r=>[(1,.c (.slice (iRows d) .none)),(2,.c (.ptr 0 0)),(5,.c (.int .i64 ((r : Int) - 1)))]) (fun r=>[.box [.int .i64 (n : Int), .slice (eRows es) .none]]) (fun r=>(r : Int) ≤ max 0 (sm + 1) ∧ ∀ k, k < r → failL n (mulE es) d k = none) (fun r=>40 - r) (0) (hk:=Weak.headL 1 25 [1, 2, 5] (zV2 @iC_in @bC_inS)) (h0:=?_) (round:=fun r hI=>?_)
 ·exact ⟨by omega, fun k hk => by omega⟩
 ·obtain ⟨hr, hpre⟩ := hI
  by_cases hlt : (r : Int) - 1 < sm
  ·have hFr := hF r (by omega)
   have e1 : (r : Int) - 1 + 1 = (r : Int) := by omega
   have hr40 : r ≤ 31 := by omega
   have hfr := hf1 r
   have hrr := @hrk r hpre
   clear hF hf1 hrk
   generalize hfl : failL n (mulE es) d r = fl at *
   generalize fl.getD [] = w at *
   cases hs : fl.isSome with
   | true =>
    have hv := hrr (.inl hs)
    rw [hs] at hFr
    rw [hv]
    refine zR (zc @hlt (zc @e1 trivial)) (zc hT (zc hFr trivial)) trivial ?_
    simp [Rets, aret, Blk.cells, ty, Try.results50, ares, toT1, toT, borrow, borrow0, capCell, toTree0, tint]
   | false =>
    rw [hs] at hFr
    have hn1 := hfr hs
    rw [← hfl] at hn1
    have e2 : (r : Int) - 1 + 1 = ((r + 1 : Nat) : Int) - 1 := by omega
    refine zR (zc @hlt (zc @e1 trivial)) (zc hT (zc hFr trivial)) trivial ?_
    refine ⟨r + 1,Weak.headN 1 25 [1, 2, 5] (zV2 @iC_in @bC_inS),?_,?_⟩
    ·refine ⟨by omega, fun k hk => ?_⟩
     by_cases e : k = r
     ·rw [e]; exact hn1
     ·exact hpre k (by omega)
    ·omega
  ·have hv := @hrk r hpre (.inr (by omega))
   rw [hv]
   clear hF hf1 hrk
   refine zR (zc @hlt trivial) (zc hT trivial) trivial ?_
   simp [Rets, aret, Blk.cells, ty, Try.results50, ares, toT1, toT, borrow, borrow0, capCell, toTree0, tint]
end Go.Proofs.Ytdhfgihnoimoaaa
