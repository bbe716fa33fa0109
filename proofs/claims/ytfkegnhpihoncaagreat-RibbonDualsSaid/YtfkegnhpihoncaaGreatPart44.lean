/- A part of the proof: contracts of functions of the program, and plain lemmas. -/
import Derived.Test.YtfkegnhpihoncaaGreatPart43
import Derived.Test.YtfkegnhpihoncaaGreatLayerC
set_option linter.all false
namespace Go.Proofs.YtfkegnhpihoncaaGreat
open Go.Sp
set_option linter.unusedSimpArgs false
set_option linter.unusedVariables false
set_option maxHeartbeats 4000000
set_option maxRecDepth 100000
def mmL (L : List (Int × Int)) (k : Nat) : List (Int × Int) := (List.range k).map fun e => (mnL L e, mxL L e)
theorem mmL_succ (L : List (Int × Int)) (k : Nat) : mmL L (k + 1) = mmL L k ++ [(mnL L k, mxL L k)] := by simp [mmL, List.range_succ]
theorem mmL_len (L : List (Int × Int)) (k : Nat) : (mmL L k).length = k := by simp [mmL]
theorem mmL_get {L : List (Int × Int)} {k e : Nat} (h : e < k) : (mmL L k)[e]? = some (mnL L e, mxL L e) := by simp [mmL, h]
def cntN (L : List (Int × Int)) (e k : Nat) : Nat := ((List.range k).filter fun f => decide (ltN L f e)).length
theorem cntN_succ (L : List (Int × Int)) (e k : Nat) : cntN L e (k + 1) = if ltN L k e then cntN L e k + 1 else cntN L e k := by
 unfold cntN
 rw [List.range_succ, List.filter_append]
 by_cases h : ltN L k e <;> simp [h]
theorem cntN_le (L : List (Int × Int)) (e k : Nat) : cntN L e k ≤ k := by
 have := List.length_filter_le (fun f => decide (ltN L f e)) (List.range k)
 rwa [List.length_range] at this
def numU (L : List (Int × Int)) (k : Nat) : List Int := (List.range k).map fun e => (cntN L e L.length : Int)
theorem numU_succ (L : List (Int × Int)) (k : Nat) : numU L (k + 1) = numU L k ++ [(cntN L k L.length : Int)] := by simp [numU, List.range_succ]
theorem numU_len (L : List (Int × Int)) (k : Nat) : (numU L k).length = k := by simp [numU]
theorem refNumbers_ok (r : R) (hs : RSm r) (hr : ROk r) : ACall Tryz.prog 122 [tR r] (tints (numI (joinsR r))) := by
 have hlen : (endsL r.es).length ≤ 2000 := ends_len (g := r.g) hs.es hr.c
 have hFs := refFaces_ok r hs hr
 have hsm := sm_of (g := r.g) (by have := hs.es; unfold R.g; simp only; omega) hr.c
 have hZ : ACall Tryz.prog 20 [tG r.g] (tint (endsL r.es).length) := SizeR_ok r.g hsm.s hsm.es hsm.m
 have hfl := facesI_len r
 have hfe := facesR_le r
 have hO := fun (x : Nat) (hx : x < 2 * (endsL r.es).length) => refOf_ok (facesI r) (x : Int) (by omega) (fun l hl => by have := facesI_short hr hl; omega)
 have hO2 : ∀ x : Nat, x < 2 * (endsL r.es).length → ACall Tryz.prog 123 [tlists (facesI r), tint (x : Int)] (tint (ofF r x)) := fun x hx => by
  have := hO x hx
  rwa [ofI_of hx] at this
 have hJl := joinsR_len r
 have hJ : ∀ e, e < (endsL r.es).length → mnL (joinsR r) e = min (ofF r (2 * e)) (ofF r (2 * e + 1)) ∧ mxL (joinsR r) e = max (ofF r (2 * e)) (ofF r (2 * e + 1)) := fun e he => by
  have : (joinsR r)[e]? = some (ofF r (2 * e), ofF r (2 * e + 1)) := by simp [joinsR, he]
  unfold mnL mxL
  rw [List.getD_eq_getElem?_getD, this]
  exact ⟨rfl, rfl⟩
 have hN : numI (joinsR r) = numU (joinsR r) (joinsR r).length := rfl
 rw [hN]
 generalize joinsR r = J at *
 generalize facesI r = F at *
 clear hO hs hr hsm hfl hfe hN
 generalize hEl : (endsL r.es).length = E at *
 generalize ofF r = o at *
 obtain ⟨n, es, ar⟩ := r
 simp only [R.g] at hZ
 clear hEl
 subst hJl
 refine ACall.of_body Tryz.func122 rfl (by kernel_rfl) ?_
 simp only [entry, Tryz.ntmps122, tR]
 refine zU ?_
 repeat' ((fail_if_success (with_reducible refine AWp.atSeq 3 ?_));(fail_if_success (with_reducible refine AWp.atLast 3 ?_));first|((first|(refine zT ?_;intro K' hK')|(refine zG ?_ ?_<;>(try refine zH ?_)<;>intro hguard<;>(try exact zX)<;>try intro K' hK'))<;>((try simp +contextual only [go_sem]);(repeat' first|(with_reducible refine hK' _ _ ?_;clear hK' K')|(with_reducible refine zK hFs ?_;try simp +contextual only [go_sem])|exact zY|with_reducible refine And.intro ?_ ?_|(with_reducible intro hpath;try exact zP)|(refine hK' _ _ ?_;clear hK' K')|fail);try refine zS ?_))|(refine zE ?_;refine hK _ _ ?_;clear hK K)|(refine zN ?_;try refine zS ?_)|refine zA ?_|(refine zB ?_;intro K hK)|(refine zC ?_ ?_<;>(try refine zH ?_)<;>intro hcond<;>try exact zX)|fail)
 refine AWp.weak (Weak.opens ((fun t f => [f, f, f, f, t, f, f, f, f, f, f, f, f, f, f, f, f, f, f, f, f, f, f, f, f, f, f, f, f, f, f, f, f, f, f, f, f, f, f, f, f, f, f, f, f, f, f, f, f, f, f, f, f, f, f, f, f, f, f, f, f, f, f, f, f, f, f, f, f, f, f, f, f, f, f, f, f, f, f, f, f, f, f, f, f, f, f, f, f, f, f, f, f, f, f, f, f, f]) true false) 2 (by first | omega | simp)) ?_
 simp only [openS, openV, List.length_cons, List.length_nil, List.length_append, Nat.reduceAdd, List.cons_append, List.nil_append]
 refine zR trivial trivial trivial ?_
 refine AWp.loopS (α:=Nat) 98 (fun e=>[(1,.c (.ptr 0 0)),(3,.c (.slice (llRows F) .none)),(4,.c (.slice (pRows (mmL J e)) (.chain 1))),(5,.c (.int .i64 (e : Int)))]) (fun e=>[.box [.int .i64 n, .slice (eRows es) .none, .slice (llRows ar) .none], .chain (mmL J e).length 2]) (fun e=>e ≤ J.length) (fun e=>J.length - e) (0) (hk:=Weak.headL 2 98 [1, 3, 4, 5] zW) (h0:=?_) (round:=fun e hI=>?_)
 ·exact Nat.zero_le _
 ·have he : e ≤ J.length := hI
  clear hI
  have hml := mmL_len J e
  by_cases hlt : e < J.length
  ·have hltI : (e : Int) < (J.length : Int) := by omega
   have o1 := hO2 (2 * e) (by omega)
   have o2 := hO2 (2 * e + 1) (by omega)
   have c1 : ((2 * e : Nat) : Int) = 2 * (e : Int) := by omega
   have c2 : ((2 * e + 1 : Nat) : Int) = 2 * (e : Int) + 1 := by omega
   rw [c1] at o1
   rw [c2] at o2
   obtain ⟨j1, j2⟩ := hJ e hlt
   have hsn := mmL_succ J e
   have hps : pRows (mmL J e) ++ [[.int .i64 (mnL J e), .int .i64 (mxL J e)]] = pRows (mmL J (e + 1)) := by rw [hsn]; simp [pRows, pRow]
   have hml2 := mmL_len J (e + 1)
   rw [j1, j2] at hps
   generalize o (2 * e) = a at *
   generalize o (2 * e + 1) = b at *
   generalize hM2 : mmL J (e + 1) = M2 at *
   generalize mmL J e = M at *
   refine zRc (zc @hltI (zc @hps (zc @pRows_len (zc @hml trivial)))) (zc hZ (zc o1 (zc o2 trivial))) @pRows_k' ?_
   refine ⟨e + 1,Weak.headF 2 98 [1, 3, 4, 5] (zc @hM2 (zc @hml2 (zc @hml trivial))) zW,?_,?_⟩
   ·exact hlt
   ·omega
  ·have ee : e = J.length := by omega
   have hnl : ¬ ((e : Int) < (J.length : Int)) := by omega
   have hget := fun (i : Nat) (hi : i < J.length) => pRows_get (mmL_get (L := J) hi)
   rw [ee] at hml hnl ⊢
   generalize hMM : mmL J J.length = M at *
   repeat' ((fail_if_success (with_reducible refine AWp.atSeq 9 ?_));(fail_if_success (with_reducible refine AWp.atLast 9 ?_));first|((first|(refine zT ?_;intro K' hK')|(refine zG ?_ ?_<;>(try refine zH ?_)<;>intro hguard<;>(try exact zX)<;>try intro K' hK'))<;>((try simp +contextual only [go_sem, hnl]);(repeat' first|(with_reducible refine hK' _ _ ?_;clear hK' K')|(with_reducible refine zK hZ ?_;try simp +contextual only [go_sem, hnl])|exact zY|with_reducible refine And.intro ?_ ?_|(with_reducible intro hpath;try exact zP)|(refine hK' _ _ ?_;clear hK' K')|fail);try refine zS ?_))|(refine zE ?_;refine hK _ _ ?_;clear hK K)|(refine zN ?_;try refine zS ?_)|refine zA ?_|(refine zB ?_;intro K hK)|(refine zC ?_ ?_<;>(try refine zH ?_)<;>intro hcond<;>try exact zX)|fail)
   refine AWp.weak (Weak.opens ((fun t f => [f, f, f, f, f, f, f, f, t, f, f, f, f, f, f, f, f, f, f, f, f, f, f, f, f, f, f, f, f, f, f, f, f, f, f, f, f, f, f, f, f, f, f, f, f, f, f, f, f, f, f, f, f, f, f, f, f, f, f, f, f, f, f, f, f, f, f, f, f, f, f, f, f, f, f, f, f, f, f, f, f, f, f, f, f, f, f, f, f, f, f, f, f, f, f, f, f, f]) true false) 1 (by first | omega | simp)) ?_
   simp only [openS, openV, List.length_cons, List.length_nil, List.length_append, Nat.reduceAdd, List.cons_append, List.nil_append]
   refine zR trivial trivial trivial ?_
   refine AWp.loopS (α:=Nat) 98 (fun e=>[(4,.c (.slice (pRows M) (.chain 1))),(8,.c (.slice (iRows (numU J e)) (.chain 2))),(9,.c (.int .i64 (e : Int)))]) (fun e=>[.box [.int .i64 n, .slice (eRows es) .none, .slice (llRows ar) .none], .chain M.length 2, .chain (numU J e).length 1]) (fun e=>e ≤ J.length) (fun e=>J.length - e) (0) (hk:=Weak.headL 3 98 [4, 8, 9] zW) (h0:=?_) (round:=fun e hI=>?_)
   ·exact Nat.zero_le _
   ·have he : e ≤ J.length := hI
    clear hI
    have hul := numU_len J e
    by_cases hlt : e < J.length
    ·have hltI : (e : Int) < (J.length : Int) := by omega
     have ge : (pRows M)[e]? = some [.int .i64 (mnL J e), .int .i64 (mxL J e)] := hget e hlt
     have hsn := numU_succ J e
     have hul2 := numU_len J (e + 1)
     have hrs := iRows_snoc (numU J e) (cntN J e J.length : Int)
     rw [← hsn] at hrs
     generalize hU2 : numU J (e + 1) = U2 at *
     generalize numU J e = U at *
     refine zR (zc @hltI (zc @pRows_len (zc @hml trivial))) trivial trivial ?_
     refine AWp.loopS (α:=Nat) 98 (fun f=>[(4,.c (.slice (pRows M) (.chain 1))),(8,.c (.slice (iRows U) (.chain 2))),(9,.c (.int .i64 (e : Int))),(10,.c (.int .i64 ((cntN J e f : Nat) : Int))),(11,.c (.int .i64 (f : Int)))]) (fun f=>[.box [.int .i64 n, .slice (eRows es) .none, .slice (llRows ar) .none], .chain M.length 2, .chain U.length 1]) (fun f=>f ≤ J.length) (fun f=>J.length - f) (0) (hk:=Weak.headL 3 98 [4, 8, 9, 10, 11] zW) (h0:=?_) (round:=fun f hI=>?_)
     ·exact Nat.zero_le _
     ·have hf : f ≤ J.length := hI
      clear hI
      by_cases hfl : f < J.length
      ·have hfI : (f : Int) < (J.length : Int) := by omega
       have gf : (pRows M)[f]? = some [.int .i64 (mnL J f), .int .i64 (mxL J f)] := hget f hfl
       have hc1 : ltN J f e → cntN J e (f + 1) = cntN J e f + 1 := fun h => by rw [cntN_succ, if_pos h]
       have hc0 : ¬ ltN J f e → cntN J e (f + 1) = cntN J e f := fun h => by rw [cntN_succ, if_neg h]
       have hcl := cntN_le J e f
       unfold ltN at hc1 hc0
       generalize mnL J f = x0 at *
       generalize mxL J f = x1 at *
       generalize mnL J e = y0 at *
       generalize mxL J e = y1 at *
       generalize hC2 : cntN J e (f + 1) = C2 at *
       generalize cntN J e f = C at *
       repeat' ((fail_if_success (with_reducible refine AWp.atSeq 16 ?_));(fail_if_success (with_reducible refine AWp.atLast 16 ?_));first|((first|(refine zT ?_;intro K' hK')|(refine zG ?_ ?_<;>(try refine zH ?_)<;>intro hguard<;>(try exact zX)<;>try intro K' hK'))<;>((try simp +contextual only [go_sem, hfI, pRows_len, hml]);(repeat' first|(with_reducible refine hK' _ _ ?_;clear hK' K')|exact zY|with_reducible refine And.intro ?_ ?_|(with_reducible intro hpath;try exact zP)|(refine hK' _ _ ?_;clear hK' K')|fail);try refine zS ?_))|(refine zE ?_;refine hK _ _ ?_;clear hK K)|(refine zN ?_;try refine zS ?_)|refine zA ?_|(refine zB ?_;intro K hK)|(refine zC ?_ ?_<;>(try refine zH ?_)<;>intro hcond<;>try exact zX)|fail)
       refine AWp.seq_draw2 (wd := true) 8 (by decide +kernel) (fun K hK => ?_) (fun K hK => ?_)
       rotate_left
       simp only [swapL]
       all_goals
        by_cases p1 : x0 < y0
        ·have hcs := hc1 (.inl p1)
         have hC3 : ((C2 : Nat) : Int) = (C : Int) + 1 := by omega
         repeat' (first|((first|(refine zT ?_;intro K' hK')|(refine zG ?_ ?_<;>(try refine zH ?_)<;>intro hguard<;>(try exact zX)<;>try intro K' hK'))<;>((try simp +contextual only [go_sem, hfI, hltI, pRows_len, hml, gf, ge, Int.toNat_natCast, p1, cellInt]);(repeat' first|(with_reducible refine hK' _ _ ?_;clear hK' K')|(refine ⟨_, _, rfl, rfl, eqPair, rfl, ?_⟩)|exact zY|with_reducible refine And.intro ?_ ?_|(with_reducible intro hpath;try exact zP)|(refine hK' _ _ ?_;clear hK' K')|fail);try refine zS ?_))|(refine zE ?_;refine hK _ _ ?_;clear hK K)|(refine zN ?_;try refine zS ?_)|refine zA ?_|(refine zB ?_;intro K hK)|(refine zC ?_ ?_<;>(try refine zH ?_)<;>intro hcond<;>try exact zX)|fail)
         refine ⟨f + 1,Weak.headF 3 98 [4, 8, 9, 10, 11] (zc @hC2 (zc @hC3 trivial)) zW,?_,?_⟩
         ·exact hfl
         ·omega
        ·by_cases p2 : x0 = y0
         ·subst p2
          by_cases p3 : x1 < y1
          ·have hcs := hc1 (.inr ⟨rfl, .inl p3⟩)
           have hC3 : ((C2 : Nat) : Int) = (C : Int) + 1 := by omega
           repeat' (first|((first|(refine zT ?_;intro K' hK')|(refine zG ?_ ?_<;>(try refine zH ?_)<;>intro hguard<;>(try exact zX)<;>try intro K' hK'))<;>((try simp +contextual only [go_sem, hfI, hltI, pRows_len, hml, gf, ge, Int.toNat_natCast, p1, p3, cellInt]);(repeat' first|(with_reducible refine hK' _ _ ?_;clear hK' K')|(refine ⟨_, _, rfl, rfl, eqPair, rfl, ?_⟩)|exact zY|with_reducible refine And.intro ?_ ?_|(with_reducible intro hpath;try exact zP)|(refine hK' _ _ ?_;clear hK' K')|fail);try refine zS ?_))|(refine zE ?_;refine hK _ _ ?_;clear hK K)|(refine zN ?_;try refine zS ?_)|refine zA ?_|(refine zB ?_;intro K hK)|(refine zC ?_ ?_<;>(try refine zH ?_)<;>intro hcond<;>try exact zX)|fail)
           refine ⟨f + 1,Weak.headF 3 98 [4, 8, 9, 10, 11] (zc @hC2 (zc @hC3 trivial)) zW,?_,?_⟩
           ·exact hfl
           ·omega
          ·by_cases p4 : x1 = y1
           ·subst p4
            by_cases p5 : f < e
            ·have p5I : (f : Int) < (e : Int) := by omega
             have hcs := hc1 (.inr ⟨rfl, .inr ⟨rfl, p5⟩⟩)
             have hC3 : ((C2 : Nat) : Int) = (C : Int) + 1 := by omega
             repeat' (first|((first|(refine zT ?_;intro K' hK')|(refine zG ?_ ?_<;>(try refine zH ?_)<;>intro hguard<;>(try exact zX)<;>try intro K' hK'))<;>((try simp +contextual only [go_sem, hfI, hltI, pRows_len, hml, gf, ge, Int.toNat_natCast, p1, p3, p5I, cellInt]);(repeat' first|(with_reducible refine hK' _ _ ?_;clear hK' K')|(refine ⟨_, _, rfl, rfl, eqPair, rfl, ?_⟩)|exact zY|with_reducible refine And.intro ?_ ?_|(with_reducible intro hpath;try exact zP)|(refine hK' _ _ ?_;clear hK' K')|fail);try refine zS ?_))|(refine zE ?_;refine hK _ _ ?_;clear hK K)|(refine zN ?_;try refine zS ?_)|refine zA ?_|(refine zB ?_;intro K hK)|(refine zC ?_ ?_<;>(try refine zH ?_)<;>intro hcond<;>try exact zX)|fail)
             refine ⟨f + 1,Weak.headF 3 98 [4, 8, 9, 10, 11] (zc @hC2 (zc @hC3 trivial)) zW,?_,?_⟩
             ·exact hfl
             ·omega
            ·have p5I : ¬ ((f : Int) < (e : Int)) := by omega
             have hcs := hc0 (by omega)
             subst hcs
             repeat' (first|((first|(refine zT ?_;intro K' hK')|(refine zG ?_ ?_<;>(try refine zH ?_)<;>intro hguard<;>(try exact zX)<;>try intro K' hK'))<;>((try simp +contextual only [go_sem, hfI, hltI, pRows_len, hml, gf, ge, Int.toNat_natCast, p1, p3, p5I, cellInt]);(repeat' first|(with_reducible refine hK' _ _ ?_;clear hK' K')|(refine ⟨_, _, rfl, rfl, eqPair, rfl, ?_⟩)|exact zY|with_reducible refine And.intro ?_ ?_|(with_reducible intro hpath;try exact zP)|(refine hK' _ _ ?_;clear hK' K')|fail);try refine zS ?_))|(refine zE ?_;refine hK _ _ ?_;clear hK K)|(refine zN ?_;try refine zS ?_)|refine zA ?_|(refine zB ?_;intro K hK)|(refine zC ?_ ?_<;>(try refine zH ?_)<;>intro hcond<;>try exact zX)|fail)
             refine ⟨f + 1,Weak.headF 3 98 [4, 8, 9, 10, 11] (zc @hC2 trivial) zW,?_,?_⟩
             ·exact hfl
             ·omega
           ·have hcs := hc0 (by omega)
            subst hcs
            repeat' (first|((first|(refine zT ?_;intro K' hK')|(refine zG ?_ ?_<;>(try refine zH ?_)<;>intro hguard<;>(try exact zX)<;>try intro K' hK'))<;>((try simp +contextual only [go_sem, hfI, hltI, pRows_len, hml, gf, ge, Int.toNat_natCast, p1, p3, p4, cellInt, List.cons.injEq, false_and, and_false, not_false_eq_true, Bool.false_eq_true]);(repeat' first|(with_reducible refine hK' _ _ ?_;clear hK' K')|(refine ⟨_, _, rfl, rfl, eqPair, rfl, ?_⟩)|exact zY|with_reducible refine And.intro ?_ ?_|(with_reducible intro hpath;try exact zP)|(refine hK' _ _ ?_;clear hK' K')|fail);try refine zS ?_))|(refine zE ?_;refine hK _ _ ?_;clear hK K)|(refine zN ?_;try refine zS ?_)|refine zA ?_|(refine zB ?_;intro K hK)|(refine zC ?_ ?_<;>(try refine zH ?_)<;>intro hcond<;>try exact zX)|fail)
            refine ⟨f + 1,Weak.headF 3 98 [4, 8, 9, 10, 11] (zc @hC2 trivial) zW,?_,?_⟩
            ·exact hfl
            ·omega
         ·have hcs := hc0 (by omega)
          subst hcs
          repeat' (first|((first|(refine zT ?_;intro K' hK')|(refine zG ?_ ?_<;>(try refine zH ?_)<;>intro hguard<;>(try exact zX)<;>try intro K' hK'))<;>((try simp +contextual only [go_sem, hfI, hltI, pRows_len, hml, gf, ge, Int.toNat_natCast, p1, p2, cellInt, List.cons.injEq, false_and, and_false, not_false_eq_true, Bool.false_eq_true]);(repeat' first|(with_reducible refine hK' _ _ ?_;clear hK' K')|(refine ⟨_, _, rfl, rfl, eqPair, rfl, ?_⟩)|exact zY|with_reducible refine And.intro ?_ ?_|(with_reducible intro hpath;try exact zP)|(refine hK' _ _ ?_;clear hK' K')|fail);try refine zS ?_))|(refine zE ?_;refine hK _ _ ?_;clear hK K)|(refine zN ?_;try refine zS ?_)|refine zA ?_|(refine zB ?_;intro K hK)|(refine zC ?_ ?_<;>(try refine zH ?_)<;>intro hcond<;>try exact zX)|fail)
          refine ⟨f + 1,Weak.headF 3 98 [4, 8, 9, 10, 11] (zc @hC2 trivial) zW,?_,?_⟩
          ·exact hfl
          ·omega
      ·have ef : f = J.length := by omega
       have hnf : ¬ ((f : Int) < (J.length : Int)) := by omega
       rw [ef] at hnf ⊢
       generalize cntN J e J.length = C at *
       refine zRc (zc @hnf (zc @pRows_len (zc @hml (zc @iRows_len (zc @hul (zc @hrs trivial)))))) trivial @iRows_k' ?_
       refine ⟨e + 1,Weak.headF 3 98 [4, 8, 9] (zc @hU2 (zc @hul2 (zc @hul trivial))) zW,?_,?_⟩
       ·exact hlt
       ·omega
    ·have ee : e = J.length := by omega
     have hnl : ¬ ((e : Int) < (J.length : Int)) := by omega
     rw [ee] at hnl ⊢
     refine zR (zc @hnl (zc @pRows_len (zc @hml trivial))) trivial trivial ?_
     simp [Rets, aret, Blk.cells, ty, Tryz.results122, ares, toT1, toT, borrow, borrow0, capCell, toTree0, tints]
end Go.Proofs.YtfkegnhpihoncaaGreat
set_option linter.all false
namespace Go.Proofs.YtfkegnhpihoncaaGreat
open Go.Sp
set_option linter.unusedSimpArgs false
set_option linter.unusedVariables false
def befL : List Int → List Int → Bool
 | [], [] => false
 | [], _ :: _ => true
 | _ :: _, [] => false
 | a :: us, b :: vs => if a = b then befL us vs else decide (a < b)
theorem bef_asymm : ∀ a b : List Int, befL a b = true → befL b a = false
 | [], [], h => by simp [befL] at h
 | [], _ :: _, _ => rfl
 | _ :: _, [], h => by simp [befL] at h
 | a :: us, b :: vs, h => by
  simp only [befL] at h ⊢
  by_cases e : a = b
  ·rw [if_pos e] at h; rw [if_pos e.symm]; exact bef_asymm us vs h
  ·rw [if_neg e] at h; rw [if_neg (fun x => e x.symm)]
   rw [decide_eq_true_eq] at h; rw [decide_eq_false_iff_not]; omega
theorem bef_anti : ∀ a b : List Int, befL a b = false → befL b a = false → a = b
 | [], [], _, _ => rfl
 | [], _ :: _, h, _ => by simp [befL] at h
 | _ :: _, [], _, h => by simp [befL] at h
 | a :: us, b :: vs, h, h2 => by
  simp only [befL] at h h2
  by_cases e : a = b
  ·rw [if_pos e] at h; rw [if_pos e.symm] at h2; rw [e, bef_anti us vs h h2]
  ·rw [if_neg e] at h; rw [if_neg (fun x => e x.symm)] at h2
   rw [decide_eq_false_iff_not] at h h2; omega
theorem bef_trans : ∀ a b c : List Int, befL b a = false → befL c b = false → befL c a = false
 | [], _, [], _, _ => rfl
 | _ :: _, [], [], h, _ => by simp [befL] at h
 | a :: us, _, [], h, h2 => by
  rename_i x
  cases x with
  | nil => simp [befL] at h
  | cons b vs => simp [befL] at h2
 | [], _, _ :: _, _, _ => rfl
 | a :: us, [], c :: ws, h, h2 => by simp [befL] at h
 | a :: us, b :: vs, c :: ws, h, h2 => by
  simp only [befL] at h h2 ⊢
  by_cases e1 : b = a
  ·subst e1
   rw [if_pos rfl] at h
   by_cases e2 : c = b
   ·rw [if_pos e2] at h2 ⊢; exact bef_trans us vs ws h h2
   ·rw [if_neg e2] at h2 ⊢; exact h2
  ·rw [if_neg e1, decide_eq_false_iff_not] at h
   by_cases e2 : c = b
   ·rw [if_pos e2] at h2
    rw [if_neg (by omega), decide_eq_false_iff_not]; omega
   ·rw [if_neg e2, decide_eq_false_iff_not] at h2
    rw [if_neg (by omega), decide_eq_false_iff_not]; omega
def sortLL (l : List (List Int)) : List (List Int) := l.mergeSort fun a b => !befL b a
theorem sortLL_perm (l : List (List Int)) : (sortLL l).Perm l := List.mergeSort_perm l _
theorem sortLL_le (l : List (List Int)) : (sortLL l).Pairwise fun a b => befL b a = false := by
 have := List.pairwise_mergeSort (le := fun a b : List Int => !befL b a) (fun a b c h1 h2 => by
  simp only [Bool.not_eq_true'] at *; exact bef_trans a b c h1 h2) (fun a b => by
  cases h : befL b a with
  | false => simp
  | true => simp [bef_asymm _ _ h]) l
 exact this.imp fun h => by simpa using h
theorem sortLL_of {l m : List (List Int)} (hs : m.Pairwise fun a b => befL b a = false) (hp : m.Perm l) : m = sortLL l :=
 List.Perm.eq_of_pairwise (le := fun a b : List Int => befL b a = false) (fun a b _ _ h1 h2 => bef_anti a b h2 h1) hs (sortLL_le l) (hp.trans (sortLL_perm l).symm)
theorem sortLL_congr {l m : List (List Int)} (h : l.Perm m) : sortLL l = sortLL m := (sortLL_of (sortLL_le l) ((sortLL_perm l).trans h))
def invS (nums : List Int) (fl : List Bool) (T : List Int) (e : Nat) : List Int :=
 (T.set (2 * (nums.getD e 0).toNat) (if fl.getD e false = true then 2 * (e : Int) + 1 else 2 * (e : Int))).set (2 * (nums.getD e 0).toNat + 1) (if fl.getD e false = true then 2 * (e : Int) else 2 * (e : Int) + 1)
def invK (nums : List Int) (fl : List Bool) (k : Nat) : List Int := (List.range k).foldl (invS nums fl) (List.replicate (2 * nums.length) 0)
theorem invK_succ (nums : List Int) (fl : List Bool) (k : Nat) : invK nums fl (k + 1) = invS nums fl (invK nums fl k) k := by
 unfold invK; rw [List.range_succ, List.foldl_append]; rfl
theorem invK_len (nums : List Int) (fl : List Bool) : ∀ k, (invK nums fl k).length = 2 * nums.length
 | 0 => by simp [invK]
 | k + 1 => by rw [invK_succ]; unfold invS; rw [List.length_set, List.length_set, invK_len nums fl k]
theorem inv_get {nums : List Int} {fl : List Bool} {N : Nat → Nat} (hN : ∀ e, e < nums.length → nums[e]? = some (N e : Int) ∧ N e < nums.length) (hi : ∀ e f, e < nums.length → f < nums.length → N e = N f → e = f) :
  ∀ k, k ≤ nums.length → ∀ e, e < k → (invK nums fl k)[2 * N e]? = some (if fl.getD e false = true then 2 * (e : Int) + 1 else 2 * (e : Int)) ∧ (invK nums fl k)[2 * N e + 1]? = some (if fl.getD e false = true then 2 * (e : Int) else 2 * (e : Int) + 1)
 | 0, _, e, he => absurd he (Nat.not_lt_zero _)
 | k + 1, hk, e, he => by
  have hk' := hN k (by omega)
  have hlen := invK_len nums fl k
  have hg : (nums.getD k 0).toNat = N k := by rw [List.getD_eq_getElem?_getD, hk'.1]; rfl
  rw [invK_succ]
  unfold invS
  rw [hg]
  by_cases hek : e = k
  ·subst hek
   refine ⟨?_, ?_⟩
   ·rw [List.getElem?_set_ne (by omega), List.getElem?_set_self (by omega)]
   ·rw [List.getElem?_set_self (by rw [List.length_set]; omega)]
  ·have ih := inv_get (fl := fl) hN hi k (by omega) e (by omega)
   have hne : N e ≠ N k := fun h => hek (hi e k (by omega) (by omega) h)
   refine ⟨?_, ?_⟩
   ·rw [List.getElem?_set_ne (by omega), List.getElem?_set_ne (by omega)]; exact ih.1
   ·rw [List.getElem?_set_ne (by omega), List.getElem?_set_ne (by omega)]; exact ih.2
theorem inv_vals {nums : List Int} {fl : List Bool} (hN : ∀ e, e < nums.length → 0 ≤ nums.getD e 0) : ∀ k, k ≤ nums.length → ∀ x, x ∈ invK nums fl k → 0 ≤ x ∧ x < max 1 (2 * (nums.length : Int))
 | 0, _, x, hx => by
  have := List.eq_of_mem_replicate hx; omega
 | k + 1, hk, x, hx => by
  rw [invK_succ] at hx
  unfold invS at hx
  rcases List.mem_or_eq_of_mem_set hx with hx | rfl
  ·rcases List.mem_or_eq_of_mem_set hx with hx | rfl
   ·exact inv_vals hN k (by omega) x hx
   ·split <;> omega
  ·split <;> omega
def flB (m bits : Nat) : List Bool := (List.range m).map fun i => decide (bits / 2 ^ i % 2 = 1)
theorem flB_get {m bits i : Nat} (h : i < m) : (flB m bits).getD i false = decide (bits / 2 ^ i % 2 = 1) := by
 rw [List.getD_eq_getElem?_getD]; simp [flB, h]
theorem bits_ex (F : Nat → Bool) : ∀ m, ∃ B, B < 2 ^ m ∧ ∀ i, i < m → (decide (B / 2 ^ i % 2 = 1) = F i)
 | 0 => ⟨0, by simp, fun i h => absurd h (Nat.not_lt_zero _)⟩
 | m + 1 => by
  obtain ⟨B, h1, h2⟩ := bits_ex F m
  have hp : 0 < 2 ^ m := Nat.pos_of_ne_zero (by simp)
  refine ⟨B + (if F m then 2 ^ m else 0), ?_, fun i hi => ?_⟩
  ·rw [Nat.pow_succ]; split <;> omega
  ·by_cases e : i = m
   ·subst e
    cases hF : F i with
    | true => simp only [if_true]; rw [Nat.add_div_right _ hp, Nat.div_eq_of_lt h1]; rfl
    | false => simp only [Bool.false_eq_true, if_false, Nat.add_zero]; rw [Nat.div_eq_of_lt h1]; rfl
   ·rw [← h2 i (by omega)]
    congr 1
    split
    ·obtain ⟨j, rfl⟩ : ∃ j, m = i + (j + 1) := ⟨m - i - 1, by omega⟩
     rw [show 2 ^ (i + (j + 1)) = 2 ^ i * (2 * 2 ^ j) by rw [Nat.pow_add, Nat.pow_succ, Nat.mul_comm (2 ^ j) 2], Nat.add_mul_div_left _ _ (Nat.pos_of_ne_zero (by simp))]
     rw [Nat.add_mul_mod_self_left]
    ·rfl
def behI (to back : List Int) (k : Nat) : List Int := (List.range back.length).map fun j => if j < k then to.getD (back.getD j 0).toNat 0 else back.getD j 0
theorem behI_get {to back : List Int} {k j : Nat} (h : j < back.length) : (behI to back k)[j]? = some (if j < k then to.getD (back.getD j 0).toNat 0 else back.getD j 0) := by simp [behI, h]
def renL (to : List Int) (l : List Int) : List Int := turnL (l.map fun z => to.getD z.toNat 0)
section
variable {r : R}
theorem num_get {e : Nat} (he : e < (joinsR r).length) : (numI (joinsR r))[e]? = some ((numN (joinsR r) e : Nat) : Int) := by
 unfold numI; rw [tabI_get _ he]; rfl
theorem inv_dual {fl : List Bool} {x : Nat} (hx : x < 2 * (endsL r.es).length) :
  (invK (numI (joinsR r)) fl (joinsR r).length)[dD r x]? = some (if fl.getD (x / 2) false = twB (ofF r) (2 * (x / 2)) then (x : Int) else ((oppH x : Nat) : Int)) := by
 have hJ := joinsR_len r
 have hnl := numI_len (joinsR r)
 have g := inv_get (nums := numI (joinsR r)) (fl := fl) (N := numN (joinsR r)) (fun e he => ⟨num_get (by rwa [hnl] at he), by rw [hnl]; exact num_lt (by rwa [hnl] at he)⟩) (fun e f he hf h => num_inj (by rwa [hnl] at he) (by rwa [hnl] at hf) h) _ (Nat.le_refl _) (x / 2) (by rw [hnl]; omega)
 rw [hnl] at g
 have ht := tw_opp (ofF r) (2 * (x / 2))
 have ho : oppH (2 * (x / 2)) = 2 * (x / 2) + 1 := by unfold oppH; omega
 rw [ho] at ht
 unfold dD dH
 generalize hF : fl.getD (x / 2) false = b at *
 have hxx : (x = 2 * (x / 2) ∧ oppH x = 2 * (x / 2) + 1) ∨ (x = 2 * (x / 2) + 1 ∧ oppH x = 2 * (x / 2)) := by unfold oppH; omega
 rcases hxx with ⟨q1, q2⟩ | ⟨q1, q2⟩
 ·rw [q2]
  have e1 : twB (ofF r) x = twB (ofF r) (2 * (x / 2)) := by rw [← q1]
  rw [e1]
  cases b <;> cases twB (ofF r) (2 * (x / 2)) <;> simp at g ⊢ <;> first | (rw [g.1]; done) | (rw [g.2]; done) | (rw [g.1]; congr 1; omega) | (rw [g.2]; congr 1; omega)
 ·rw [q2]
  have e1 : twB (ofF r) x = !twB (ofF r) (2 * (x / 2)) := by rw [← ht, ← q1]
  rw [e1]
  cases b <;> cases twB (ofF r) (2 * (x / 2)) <;> simp at g ⊢ <;> first | (rw [g.1]; done) | (rw [g.2]; done) | (rw [g.1]; congr 1; omega) | (rw [g.2]; congr 1; omega)
theorem Rib.bits (h : Rib r) : ∃ B, B < 2 ^ (endsL r.es).length ∧
  sortLL ((dualG (dualG r)).ar.map (renL (behI (invK (numI (joinsR r)) (flB (endsL r.es).length B) (joinsR r).length) (invK (numI (joinsR (dualG r))) (List.replicate (endsL r.es).length false) (joinsR (dualG r)).length) (2 * (endsL r.es).length)))) = sortLL r.ar := by
 have hd := h.dual
 have hN := h.elen
 obtain ⟨B, h1, h2⟩ := bits_ex (fun e => Bool.xor (twB (ofF r) (2 * e)) (twB (ofF (dualG r)) (2 * numN (joinsR r) e))) (endsL r.es).length
 refine ⟨B, h1, ?_⟩
 have hbl : (invK (numI (joinsR (dualG r))) (List.replicate (endsL r.es).length false) (joinsR (dualG r)).length).length = 2 * (endsL r.es).length := by rw [invK_len, numI_len, joinsR_len, hN]
 generalize hbk : invK (numI (joinsR (dualG r))) (List.replicate (endsL r.es).length false) (joinsR (dualG r)).length = back at *
 generalize hto : invK (numI (joinsR r)) (flB (endsL r.es).length B) (joinsR r).length = to at *
 have key := h.twice (γ := fun z => ((behI to back (2 * (endsL r.es).length)).getD z 0).toNat) fun x hx => by
  have hdx := h.dlt hx
  have hddx : dD (dualG r) (dD r x) < 2 * (endsL r.es).length := by have := hd.dlt (x := dD r x) (by rw [hN]; exact hdx); rwa [hN] at this
  have b1 := inv_dual (r := dualG r) (fl := List.replicate (endsL r.es).length false) (x := dD r x) (by rw [hN]; exact hdx)
  rw [hbk] at b1
  have b2 : (List.replicate (endsL r.es).length false).getD (dD r x / 2) false = false := by
   rw [List.getD_eq_getElem?_getD, List.getElem?_replicate]; split <;> rfl
  rw [b2] at b1
  have e1 : dD r x / 2 = numN (joinsR r) (x / 2) := dH_half _ _
  rw [e1] at b1
  have hfl := h2 (x / 2) (by omega)
  have hfg := flB_get (m := (endsL r.es).length) (bits := B) (i := x / 2) (by omega)
  rw [hfl] at hfg
  rw [List.getD_eq_getElem?_getD, behI_get (by rw [hbl]; exact hddx), if_pos hddx, Option.getD_some, List.getD_eq_getElem?_getD (l := back), b1, Option.getD_some]
  by_cases c : false = twB (ofF (dualG r)) (2 * numN (joinsR r) (x / 2))
  ·rw [if_pos c, Int.toNat_natCast, List.getD_eq_getElem?_getD, ← hto, inv_dual hx, Option.getD_some, if_pos (by rw [hfg, ← c]; simp)]; rfl
  ·rw [if_neg c, Int.toNat_natCast, ← dopp, List.getD_eq_getElem?_getD, ← hto, inv_dual (oppH_lt hx), Option.getD_some, opp_half, oppH_opp, if_neg (by
    rw [hfg]
    have : twB (ofF (dualG r)) (2 * numN (joinsR r) (x / 2)) = true := by
     cases hq : twB (ofF (dualG r)) (2 * numN (joinsR r) (x / 2)) with
     | true => rfl
     | false => exact absurd hq.symm c
    rw [this]
    cases twB (ofF r) (2 * (x / 2)) <;> simp)]; rfl
 refine sortLL_congr (List.Perm.trans (List.Perm.of_eq ?_) key)
 refine List.map_congr_left fun l _ => ?_
 unfold renL
 congr 1
 refine List.map_congr_left fun z _ => ?_
 have hnn : 0 ≤ (behI to back (2 * (endsL r.es).length)).getD z.toNat 0 := by
  have hto0 : ∀ y, y ∈ to → 0 ≤ y := fun y hy => by
   rw [← hto] at hy
   have := inv_vals (nums := numI (joinsR r)) (fl := flB (endsL r.es).length B) (fun e he => by
    rw [List.getD_eq_getElem?_getD, num_get (by rwa [numI_len] at he)]; simp) _ (by rw [numI_len]; exact Nat.le_refl _) y hy
   exact this.1
  have hbk0 : ∀ y, y ∈ back → 0 ≤ y := fun y hy => by
   rw [← hbk] at hy
   have := inv_vals (nums := numI (joinsR (dualG r))) (fl := List.replicate (endsL r.es).length false) (fun e he => by
    rw [List.getD_eq_getElem?_getD, num_get (by rwa [numI_len] at he)]; simp) _ (by rw [numI_len]; exact Nat.le_refl _) y hy
   exact this.1
  have hgd : ∀ (L : List Int) (i : Nat), (∀ y, y ∈ L → 0 ≤ y) → 0 ≤ L.getD i 0 := fun L i hL => by
   rw [List.getD_eq_getElem?_getD]
   cases hq : L[i]? with
   | none => simp
   | some y => exact hL y (List.mem_of_getElem? hq)
  refine hgd _ _ fun y hy => ?_
  obtain ⟨j, _, rfl⟩ := List.mem_map.1 hy
  split
  ·exact hgd _ _ hto0
  ·exact hgd _ _ hbk0
 omega
end
end Go.Proofs.YtfkegnhpihoncaaGreat
