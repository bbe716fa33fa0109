/- A part of the proof: contracts of functions of the program, and plain lemmas. -/
import Derived.Test.YtfkegnhpihoncaaGreatPart28
import Derived.Test.YtfkegnhpihoncaaGreatLayerC
import Derived.Test.YtfkegnhpihoncaaGreatPart05
import Derived.Test.YtfkegnhpihoncaaGreatSpOpen
import Derived.Test.YtfkegnhpihoncaaGreatRows
import Derived.WalkKit
import Derived.ProofKit
import Derived.OpenShut
import Derived.ShutString
import Derived.ChangeOld
import Derived.Below
import Derived.Lib.SmallJoins
import Derived.Test.YtfkegnhpihoncaaGreatPart10
set_option linter.all false
namespace Go.Proofs.YtfkegnhpihoncaaGreat
open Go.Sp
set_option linter.unusedSimpArgs false
set_option linter.unusedVariables false
set_option maxHeartbeats 4000000
set_option maxRecDepth 100000
theorem borrow_slice (H : List Blk) (rows : List (List Tree)) (tok : Tok) : borrow H (.slice rows tok) = some (.slice rows) := rfl
theorem z000 : (0 : Int) + 0 + 0 = 0 := rfl
theorem Twice_walk (n : Int) (es : List E) (ar : List (List Int)) (dn : Int) (des : List E) (dar : List (List Int)) (bes : List E) (bar : List (List Int)) (l m : List Int) (E B : Nat) (G : Int)
    (f1 : ACall Tryz.prog 19 [tR ⟨n, es, ar⟩] (tbool true)) (hA : ACall Tryz.prog 12 [] (tbool true))
    (hD : ACall Tryz.prog 23 [tR ⟨n, es, ar⟩] (.tup [tR ⟨dn, des, dar⟩, tints l, tint 0])) (hD2 : ACall Tryz.prog 23 [tR ⟨dn, des, dar⟩] (.tup [tR ⟨n, bes, bar⟩, tints m, tint 0]))
    (hG : ACall Tryz.prog 14 [tR ⟨n, es, ar⟩] (.tup [tint G, tint 0])) (hG2 : ACall Tryz.prog 14 [tR ⟨dn, des, dar⟩] (.tup [tint G, tint 0]))
    (hC : ACall Tryz.prog 15 [tR ⟨dn, des, dar⟩] (tint 0)) (hC2 : ACall Tryz.prog 15 [tR ⟨n, bes, bar⟩] (tint 0))
    (hZ : ACall Tryz.prog 20 [tG ⟨n, es⟩] (tint E)) (hll : l.length = E) (hml : m.length = E) (hE : E ≤ 9)
    (hO : ACall Tryz.prog 24 [tlists ar] (tlists (sortLL ar))) (hal : ar.length < 2 ^ 20) (hall : ∀ x, x ∈ ar → x.length < 2 ^ 20)
    (hlr : ∀ x, x ∈ l → 0 ≤ x ∧ x < E) (hmr : ∀ x, x ∈ m → 0 ≤ x ∧ x < E)
    (hbl : bar.length < 2 ^ 20) (hbll : ∀ w, w ∈ bar → w.length < 2 ^ 20) (hbr : ∀ w, w ∈ bar → ∀ x, x ∈ w → 0 ≤ x ∧ x < 2 * E)
    (hB : B < 2 ^ E) (hT : sortLL (bar.map (renL (behI (invK l (flB E B) l.length) (invK m (List.replicate E false) m.length) (2 * E)))) = sortLL ar) :
    ACall Tryz.prog 5 [tR ⟨n, es, ar⟩] (tbool true) := by
  have hlI : ((iRows l).length : Int) = E := by rw [iRows_len, hll]
  have hmI : ((iRows m).length : Int) = E := by rw [iRows_len, hml]
  have hlN : (iRows l).length = E := by rw [iRows_len, hll]
  have hmN : (iRows m).length = E := by rw [iRows_len, hml]
  have hP9 : 2 ^ E ≤ 2 ^ 9 := Nat.pow_le_pow_right (by omega) hE
  have hsh1 : (1 : Int) * 2 ^ min E 64 = ((2 ^ E : Nat) : Int) := by rw [Nat.min_eq_left (by omega), Int.one_mul, Int.natCast_pow]; rfl
  have hbit := fun q i (hq : q < 2 ^ E) (hi : i < E) => bit_at q i (by omega) (by omega)
  have hsort : ∀ x, x ∈ sortLL ar → x.length < 2 ^ 40 := fun x hx => by have := hall x ((sortLL_perm ar).mem_iff.1 hx); omega
  have hsl : (sortLL ar).length = ar.length := (sortLL_perm ar).length_eq
  have hta : (llRows ar).take ar.length = llRows ar := List.take_of_length_le (by rw [llRows_len]; exact Nat.le_refl _)
  have hren : ∀ W : List Int, W.length = 2 * E → ACall Tryz.prog 26 [tR ⟨n, bes, bar⟩, tints W] (tlists (sortLL (bar.map (renL W)))) := fun W hW =>
    renumbered_ok ⟨n, bes, bar⟩ W hbl hbll (by omega) (fun w hw x hx => by have := hbr w hw x hx; omega)
  have hsm : ∀ W : List Int, (sortLL (bar.map (renL W))).length < 2 ^ 40 ∧ ∀ x, x ∈ sortLL (bar.map (renL W)) → x.length < 2 ^ 40 := fun W => by
    refine ⟨by rw [(sortLL_perm _).length_eq, List.length_map]; omega, fun x hx => ?_⟩
    obtain ⟨w, hw, rfl⟩ := List.mem_map.1 ((sortLL_perm _).mem_iff.1 hx)
    rw [renL_len]; have := hbll w hw; omega
  generalize hS : sortLL ar = S at *
  generalize hPP : 2 ^ E = P at *
  have hpI : (P : Int) ≤ 512 := by omega
  refine ACall.of_body Tryz.func5 rfl (by kernel_rfl) ?_
  simp only [entry, Tryz.ntmps5, tR]
  refine zU ?_
  repeat' (first|((first|(refine zT ?_;intro K' hK')|(refine zG ?_ ?_<;>(try refine zH ?_)<;>intro hguard<;>(try exact zX)<;>try intro K' hK'))<;>((try simp +contextual only [go_sem, hlI, hmI, hlN, hmN, hsh1, hpI, hta, llRows_len, Int.toNat_natCast, chunks, List.range, List.range.loop, Option.isSome_none, Option.isSome_some, Bool.false_eq_true, false_and, not_false_eq_true, z000]);(repeat' first|(with_reducible refine hK' _ _ ?_;clear hK' K')|((with_reducible first|refine zK f1 ?_|refine zK hA ?_|refine zK hD ?_|refine zK hD2 ?_|refine zK hG ?_|refine zK hG2 ?_|refine zK hC ?_|refine zK hC2 ?_|refine zK hZ ?_|refine zK hO ?_);try simp +contextual only [go_sem, hlI, hmI, hlN, hmN, hsh1, hpI, hta, llRows_len, Int.toNat_natCast, chunks, List.range, List.range.loop, Option.isSome_none, Option.isSome_some, Bool.false_eq_true, false_and, not_false_eq_true, z000])|(with_reducible exact llRows_k' (by assumption))|(exact .inr True.intro)|exact zY|with_reducible refine And.intro ?_ ?_|(with_reducible intro hpath;try exact zP)|(refine hK' _ _ ?_;clear hK' K')|fail);try refine zS ?_))|(refine zE ?_;refine hK _ _ ?_;clear hK K)|(refine zN ?_;try refine zS ?_)|refine zA ?_|(refine zB ?_;intro K hK)|(refine zC ?_ ?_<;>(try refine zH ?_)<;>intro hcond<;>try exact zX)|fail)
  refine AWp.loopS (α:=Nat) 162 (fun q=>[(1,.c (.ptr 0 0)),(4,.c (.slice (iRows l) .none)),(6,.c (.ptr 2 0)),(7,.c (.slice (iRows m) .none)),(12,.c (.slice (llRows S) .none)),(105,.c (.int .i64 (P : Int))),(106,.c (.int .i64 (q : Int)))]) (fun q=>[.box [.int .i64 n, .slice (eRows es) .none, .slice (llRows ar) .none], .box [.int .i64 dn, .slice (eRows des) .none, .slice (llRows dar) .none], .box [.int .i64 n, .slice (eRows bes) .none, .slice (llRows bar) .none]]) (fun q=>q ≤ B) (fun q=>P - q) (0) (hk:=Weak.headL 3 162 [1, 4, 6, 7, 12, 105, 106] zW) (h0:=?_) (round:=fun q hI=>?_)
  · exact Nat.zero_le _
  · have hq : q ≤ B := hI
    clear hI
    have hqI : (q : Int) < P := by omega
    have hqP : q < P := by omega
    have h0 : List.replicate E false = flK E q 0 := flK_zero E q
    refine zR (zc @hqI (zc @hlI (zc @hlN (zc @iRows_len (zc @hll (zc @made_bools trivial)))))) trivial trivial ?_
    rw [h0]
    refine AWp.loopS (α:=Nat) 162 (fun i=>[(1,.c (.ptr 0 0)),(4,.c (.slice (iRows l) .none)),(6,.c (.ptr 2 0)),(7,.c (.slice (iRows m) .none)),(12,.c (.slice (llRows S) .none)),(13,.c (.int .i64 (q : Int))),(14,.c (.ref 3 1 0 E E)),(105,.c (.int .i64 (P : Int))),(106,.c (.int .i64 (q : Int))),(113,.c (.int .i64 (E : Int))),(114,.c (.int .i64 (i : Int)))]) (fun i=>[.box [.int .i64 n, .slice (eRows es) .none, .slice (llRows ar) .none], .box [.int .i64 dn, .slice (eRows des) .none, .slice (llRows dar) .none], .box [.int .i64 n, .slice (eRows bes) .none, .slice (llRows bar) .none], .box (bC (flK E q i))]) (fun i=>i ≤ E) (fun i=>E - i) (0) (hk:=Weak.headL 4 162 [1, 4, 6, 7, 12, 13, 14, 105, 106, 113, 114] zW) (h0:=?_) (round:=fun i hI=>?_)
    · exact Nat.zero_le _
    · have hi : i ≤ E := hI
      clear hI
      have hfl := flK_len E q i
      by_cases hlt : i < E
      · have hltI : (i : Int) < (E : Int) := by omega
        have hb := hbit q i (by omega) hlt
        have hst := flK_step (q := q) hlt
        have hx : q / 2 ^ i % 2 = 0 ∨ q / 2 ^ i % 2 = 1 := by omega
        generalize q / 2 ^ i % 2 = x at *
        generalize hF2 : flK E q (i + 1) = F2 at *
        generalize flK E q i = F at *
        rcases hx with rfl | rfl
        · have hb2 : ibit .and .i64 ((q : Int).fdiv (2 ^ min i 64)) 1 = 0 := hb
          have hst2 : F.set i false = F2 := hst
          refine zR (zc @hltI (zc @hb2 (zc @hfl (zc @bC_set (zc @bC_len (zc @hst2 trivial)))))) trivial trivial ?_
          refine ⟨i + 1,Weak.headF 4 162 [1, 4, 6, 7, 12, 13, 14, 105, 106, 113, 114] (zc @hF2 trivial) zW,?_,?_⟩
          · exact hlt
          · omega
        · have hb2 : ibit .and .i64 ((q : Int).fdiv (2 ^ min i 64)) 1 = 1 := hb
          have hst2 : F.set i true = F2 := hst
          refine zR (zc @hltI (zc @hb2 (zc @hfl (zc @bC_set (zc @bC_len (zc @hst2 trivial)))))) trivial trivial ?_
          refine ⟨i + 1,Weak.headF 4 162 [1, 4, 6, 7, 12, 13, 14, 105, 106, 113, 114] (zc @hF2 trivial) zW,?_,?_⟩
          · exact hlt
          · omega
      · have ei : i = E := by omega
        have hnl : ¬ ((i : Int) < (E : Int)) := by omega
        have hFE : flK E q i = flB E q := by rw [ei]; exact flK_all E q
        rw [hFE] at hfl ⊢
        have hTq := fun (e : q = B) => e ▸ hT
        generalize flB E q = F at *
        have hb3 : ∀ a b c : Blk, borrow [a, b, c, .box (bC F)] (.ref 3 1 0 E E) = some (.slice (bRows F)) := fun a b c => bC_ref hfl rfl
        have hZl : (List.replicate E false).length = E := List.length_replicate ..
        have hI1 := (inverse_ok l F (by omega) (by rw [hll]; exact hlr) (by omega)).h (H := [.box [.int .i64 n, .slice (eRows es) .none, .slice (llRows ar) .none], .box [.int .i64 dn, .slice (eRows des) .none, .slice (llRows dar) .none], .box [.int .i64 n, .slice (eRows bes) .none, .slice (llRows bar) .none], .box (bC F)]) (args := [.c (.slice (iRows l) .none), .c (.ref 3 1 0 E E)]) (by simp [toT, toT1, hb3, borrow_slice, tints, tbools])
        have hI2 := fun T : List Int => (inverse_ok m (List.replicate E false) (by omega) (by rw [hml]; exact hmr) (by omega)).h (H := [.box [.int .i64 n, .slice (eRows es) .none, .slice (llRows ar) .none], .box [.int .i64 dn, .slice (eRows des) .none, .slice (llRows dar) .none], .box [.int .i64 n, .slice (eRows bes) .none, .slice (llRows bar) .none], .box (bC F), .box (iC T), .box (bC (List.replicate E false))]) (args := [.c (.slice (iRows m) .none), .c (.ref 5 1 0 E E)]) (by
          have hb5 : ∀ a b c d e : Blk, borrow [a, b, c, d, e, .box (bC (List.replicate E false))] (.ref 5 1 0 E E) = some (.slice (bRows (List.replicate E false))) := fun a b c d e => bC_ref hZl rfl
          simp [toT, toT1, hb5, borrow_slice, tints, tbools])
        simp only [flat_iRows, iRows_len, invK_len, hll, hml, List.length_cons, List.length_nil, List.cons_append, List.nil_append, Nat.reduceAdd] at hI1 hI2
        rw [hll, hml] at hTq
        have hTl : (invK l F E).length = 2 * E := by rw [invK_len, hll]
        have hKl : (invK m (List.replicate E false) E).length = 2 * E := by rw [invK_len, hml]
        have hKv := inv_vals (nums := m) (fl := List.replicate E false) (fun e he => by rw [List.getD_eq_getElem?_getD, List.getElem?_eq_getElem he]; exact (hmr _ (List.getElem_mem he)).1) E (by omega)
        generalize invK l F E = T at *
        have hI2 := hI2 T
        generalize invK m (List.replicate E false) E = K2 at *
        generalize hZZ : List.replicate E false = Z at *
        have hmb : madeA [ACell.bool false] E = bC Z := by rw [made_bools, hZZ]
        have h2E : ((2 * E : Nat) : Int) = 2 * (E : Int) := by omega
        repeat' ((fail_if_success (with_reducible refine AWp.atSeq 22 ?_));(fail_if_success (with_reducible refine AWp.atLast 22 ?_));first|((first|(refine zT ?_;intro K' hK')|(refine zG ?_ ?_<;>(try refine zH ?_)<;>intro hguard<;>(try exact zX)<;>try intro K' hK'))<;>((try simp +contextual only [go_sem, hnl]);(repeat' first|(with_reducible refine hK' _ _ ?_;clear hK' K')|((with_reducible first|refine ⟨_,_,hI1,?_⟩|refine ⟨_,hI1,?_⟩);try simp +contextual only [go_sem, hnl])|exact zY|with_reducible refine And.intro ?_ ?_|(with_reducible intro hpath;try exact zP)|(refine hK' _ _ ?_;clear hK' K')|fail);try refine zS ?_))|(refine zE ?_;refine hK _ _ ?_;clear hK K)|(refine zN ?_;try refine zS ?_)|refine zA ?_|(refine zB ?_;intro K hK)|(refine zC ?_ ?_<;>(try refine zH ?_)<;>intro hcond<;>try exact zX)|fail)
        repeat' ((fail_if_success (with_reducible refine AWp.atSeq 23 ?_));(fail_if_success (with_reducible refine AWp.atLast 23 ?_));first|((first|(refine zT ?_;intro K' hK')|(refine zG ?_ ?_<;>(try refine zH ?_)<;>intro hguard<;>(try exact zX)<;>try intro K' hK'))<;>((try simp +contextual only [go_sem, hmI, hmN, iRows_len, hml, hmb, Int.toNat_natCast]);(repeat' first|(with_reducible refine hK' _ _ ?_;clear hK' K')|((with_reducible first|refine ⟨_,_,hI2,?_⟩|refine ⟨_,hI2,?_⟩);try simp +contextual only [go_sem, hmI, hmN, iRows_len, hml, hmb, Int.toNat_natCast])|exact zY|with_reducible refine And.intro ?_ ?_|(with_reducible intro hpath;try exact zP)|(refine hK' _ _ ?_;clear hK' K')|fail);try refine zS ?_))|(refine zE ?_;refine hK _ _ ?_;clear hK K)|(refine zN ?_;try refine zS ?_)|refine zA ?_|(refine zB ?_;intro K hK)|(refine zC ?_ ?_<;>(try refine zH ?_)<;>intro hcond<;>try exact zX)|fail)
        repeat' (first|((with_reducible refine AWp.seq (AWp.of_reg (id:=23) (AReg.pre 1 (fun K hK=>?_))));simp only [List.take_succ_cons,List.take_zero])|((with_reducible refine AWp.of_reg (id:=23) (AReg.pre 1 (fun K hK=>?_)));simp only [List.take_succ_cons,List.take_zero])|((first|(refine zT ?_;intro K' hK')|(refine zG ?_ ?_<;>(try refine zH ?_)<;>intro hguard<;>(try exact zX)<;>try intro K' hK'))<;>((try simp +contextual only [go_sem]);(repeat' first|(with_reducible refine hK' _ _ ?_;clear hK' K')|exact zY|with_reducible refine And.intro ?_ ?_|(with_reducible intro hpath;try exact zP)|(refine hK' _ _ ?_;clear hK' K')|fail);try refine zS ?_))|(refine zE ?_;refine hK _ _ ?_;clear hK K)|(refine zN ?_;try refine zS ?_)|refine zA ?_|(refine zB ?_;intro K hK)|(refine zC ?_ ?_<;>(try refine zH ?_)<;>intro hcond<;>try exact zX)|fail)
        simp only [List.drop_succ_cons, List.drop_zero]
        refine AReg.refnil (e := 3) rfl rfl rfl (by simp only [ty]) rfl rfl ?_
        simp only [aput, List.set_cons_succ, List.set_cons_zero]
        refine AReg.pre 2 (fun K hK => ?_)
        simp only [List.take_succ_cons, List.take_zero]
        repeat' (first|((first|(refine zT ?_;intro K' hK')|(refine zG ?_ ?_<;>(try refine zH ?_)<;>intro hguard<;>(try exact zX)<;>try intro K' hK'))<;>((try simp +contextual only [go_sem]);(repeat' first|(with_reducible refine hK' _ _ ?_;clear hK' K')|exact zY|with_reducible refine And.intro ?_ ?_|(with_reducible intro hpath;try exact zP)|(refine hK' _ _ ?_;clear hK' K')|fail);try refine zS ?_))|(refine zE ?_;refine hK _ _ ?_;clear hK K)|(refine zN ?_;try refine zS ?_)|fail)
        simp only [List.drop_succ_cons, List.drop_zero]
        refine AReg.refnil (e := 3) rfl rfl rfl (by simp only [ty]) rfl rfl ?_
        simp only [aput, List.set_cons_succ, List.set_cons_zero]
        refine AReg.rest (fun K hK => ?_)
        repeat' (first|((first|(refine zT ?_;intro K' hK')|(refine zG ?_ ?_<;>(try refine zH ?_)<;>intro hguard<;>(try exact zX)<;>try intro K' hK'))<;>((try simp +contextual only [go_sem]);(repeat' first|(with_reducible refine hK' _ _ ?_;clear hK' K')|exact zY|with_reducible refine And.intro ?_ ?_|(with_reducible intro hpath;try exact zP)|(refine hK' _ _ ?_;clear hK' K')|fail);try refine zS ?_))|(refine zE ?_;refine hK _ _ ?_;clear hK K)|(refine zN ?_;try refine zS ?_)|refine zA ?_|(refine zB ?_;intro K hK)|(refine zC ?_ ?_<;>(try refine zH ?_)<;>intro hcond<;>try exact zX)|fail)
        refine AWp.loopS (α:=(Nat × List Int)) 162 (fun s=>[(1,.c (.ptr 0 0)),(4,.c (.slice (iRows l) .none)),(6,.c (.ptr 2 0)),(7,.c (.slice (iRows m) .none)),(12,.c (.slice (llRows S) .none)),(16,.c (.ref 4 1 0 (2 * E) (2 * E))),(17,.c (.ref 6 1 0 (2 * E) (2 * E))),(105,.c (.int .i64 (P : Int))),(106,.c (.int .i64 (q : Int))),(140,.c (.ref 6 1 0 (2 * E) (2 * E))),(141,.c (.int .i64 ((2 * E : Nat) : Int))),(142,.c (.int .i64 (s.1 : Int)))]) (fun s=>[.box [.int .i64 n, .slice (eRows es) .none, .slice (llRows ar) .none], .box [.int .i64 dn, .slice (eRows des) .none, .slice (llRows dar) .none], .box [.int .i64 n, .slice (eRows bes) .none, .slice (llRows bar) .none], .box (bC F), .box (iC T), .box (bC Z), .box (iC s.2)]) (fun s=>s.1 ≤ 2 * E ∧ s.2 = behI T K2 s.1) (fun s=>2 * E - s.1) ((0, K2)) (hk:=Weak.headL 7 162 [1, 4, 6, 7, 12, 16, 17, 105, 106, 140, 141, 142] zW) (h0:=?_) (round:=fun s hI=>?_)
        · exact ⟨Nat.zero_le _, (behI_zero T K2).symm⟩
        · obtain ⟨k, W⟩ := s
          obtain ⟨hk, hW⟩ := hI
          simp only at hk hW ⊢
          have hWl : W.length = 2 * E := by rw [hW, behI_len, hKl]
          by_cases hkl : k < 2 * E
          · have hkI : (k : Int) < ((2 * E : Nat) : Int) := by omega
            have e0 := List.getElem?_eq_getElem (l := K2) (i := k) (by omega)
            have w0 : W[k]? = some (K2[k]'(by omega)) := by rw [hW, behI_get (by omega), if_neg (by omega), List.getD_eq_getElem?_getD, e0]; rfl
            have hbs := behI_step (to := T) (back := K2) (k := k) (by omega)
            rw [← hW, List.getD_eq_getElem?_getD (l := K2), e0, Option.getD_some] at hbs
            have hv := hKv _ (List.getElem_mem (l := K2) (n := k) (by omega))
            generalize K2[k]'(by omega) = x at *
            obtain ⟨z, rfl⟩ := Int.eq_ofNat_of_zero_le hv.1
            have hz : z < 2 * E := by have := hv.2; rw [hml] at this; omega
            have hzI : (z : Int) < ((2 * E : Nat) : Int) := by omega
            have t0 := List.getElem?_eq_getElem (l := T) (i := z) (by omega)
            rw [show ((z : Nat) : Int).toNat = z from rfl, List.getD_eq_getElem?_getD, t0, Option.getD_some] at hbs
            generalize T[z]'(by omega) = y at *
            have g1 := iC_get w0
            have g2 := iC_get t0
            have d1 := iC_drop w0
            have d2 := iC_drop t0
            generalize hW2 : behI T K2 (k + 1) = W2 at *
            refine zR (zc @hkI (zc @hzI (zc @hkl (zc @hz (zc @g1 (zc @g2 (zc @d1 (zc @d2 (zc @iC_set (zc @iC_len (zc @hWl (zc @hTl (zc @hbs trivial))))))))))))) trivial trivial ?_
            refine ⟨(k + 1, W2),Weak.headN 7 162 [1, 4, 6, 7, 12, 16, 17, 105, 106, 140, 141, 142] zW,?_,?_⟩
            · exact ⟨hkl, hW2.symm⟩
            · simp only; omega
          · have ek : k = 2 * E := by omega
            have hnk : ¬ ((k : Int) < ((2 * E : Nat) : Int)) := by omega
            rw [ek] at hW
            have hTq2 := fun e => hTq e
            rw [← hW] at hTq2
            repeat' ((fail_if_success (with_reducible refine AWp.atSeq 30 ?_));(fail_if_success (with_reducible refine AWp.atLast 30 ?_));first|((first|(refine zT ?_;intro K' hK')|(refine zG ?_ ?_<;>(try refine zH ?_)<;>intro hguard<;>(try exact zX)<;>try intro K' hK'))<;>((try simp +contextual only [go_sem, hnk]);(repeat' first|(with_reducible refine hK' _ _ ?_;clear hK' K')|exact zY|with_reducible refine And.intro ?_ ?_|(with_reducible intro hpath;try exact zP)|(refine hK' _ _ ?_;clear hK' K')|fail);try refine zS ?_))|(refine zE ?_;refine hK _ _ ?_;clear hK K)|(refine zN ?_;try refine zS ?_)|refine zA ?_|(refine zB ?_;intro K hK)|(refine zC ?_ ?_<;>(try refine zH ?_)<;>intro hcond<;>try exact zX)|fail)
            refine AWp.freezeR 17 6 1 (2 * E) (2 * E) rfl rfl (iC_trees W) (iRows W) (by rw [iRows_len, hWl]) (Nat.le_refl _) (fun r hr => iRows_k' hr) (fun i r m x h1 h2 => iRows_pre W i r m x h1 h2) ?_
            simp only [List.set_cons_succ, List.set_cons_zero]
            have hR := hren W hWl
            have hSL := SameLists_ok (sortLL (bar.map (renL W))) S (hsm W).1 (by rw [hsl]; omega) (hsm W).2 hsort
            by_cases hsame : sortLL (bar.map (renL W)) = S
            · rw [decide_eq_true hsame] at hSL
              generalize sortLL (bar.map (renL W)) = X at *
              refine zR trivial (zc hR (zc hSL (zc hA trivial))) trivial ?_
              simp [Rets, aret, Blk.cells, ty, Tryz.results5, ares, toT1, toT, borrow, borrow0, capCell, toTree0, tbool]
            · rw [decide_eq_false hsame] at hSL
              have hqB : q < B := by
                by_cases e : q = B
                · exact absurd (hTq2 e) hsame
                · omega
              generalize sortLL (bar.map (renL W)) = X at *
              refine zR trivial (zc hR (zc hSL trivial)) trivial ?_
              refine ⟨q + 1,Weak.headN 3 162 [1, 4, 6, 7, 12, 105, 106] zW,?_,?_⟩
              · exact hqB
              · omega
theorem Twice_ok (r : R) : ACall Tryz.prog 5 [tR r] (tbool true) := by
  have hA := awake44_ok
  have f1 := rightR_ok r
  by_cases hr : rightR r = true
  case neg =>
    simp only [Bool.not_eq_true] at hr
    rw [hr] at f1
    obtain ⟨n, es, ar⟩ := r
    refine ACall.of_body Tryz.func5 rfl (by kernel_rfl) ?_
    simp only [entry, Tryz.ntmps5, tR]
    refine zU ?_
    refine zR trivial (zc f1 (zc hA trivial)) trivial ?_
    simp [Rets, aret, Blk.cells, ty, Tryz.results5, ares, toT1, toT, borrow, borrow0, capCell, toTree0, tbool]
  rw [hr] at f1
  obtain ⟨hf, he⟩ := rightR_iff.1 hr
  have hs := rsm_of hf
  have ho := rok_of he
  have h9 := (few_size hf ho.c).1
  have hD := rDual_ok r hs
  rcases dual_err he h9 with h5 | ⟨h0, h12⟩
  · rw [h5] at hD
    generalize dualD r = d at *
    generalize dualN r = l at *
    clear h5 h9 ho hs he hf hr
    obtain ⟨n, es, ar⟩ := r
    obtain ⟨dn, des, dar⟩ := d
    simp only [tR] at hD f1
    refine ACall.of_body Tryz.func5 rfl (by kernel_rfl) ?_
    simp only [entry, Tryz.ntmps5, tR]
    refine zU ?_
    refine zR trivial (zc f1 (zc hD (zc hA trivial))) trivial ?_
    simp [Rets, aret, Blk.cells, ty, Tryz.results5, ares, toT1, toT, borrow, borrow0, capCell, toTree0, tbool]
  · obtain ⟨d, b, l, m, k, B, t⟩ := tw_of hf he h12
    have hD2 := rDual_ok d t.sd
    rw [t.d1, t.d3, h0] at hD
    rw [t.b1, t.b3, t.b2] at hD2
    have hG := rGenus_ok r hs
    have hG2 := rGenus_ok d t.sd
    rw [if_neg (fun h => h he), he] at hG
    rw [if_neg (fun h => h t.ed), t.ed, t.gen] at hG2
    have hC := refCheck_ok d t.sd
    rw [t.ed] at hC
    have hC2 := refCheck_ok b t.sb
    rw [t.eb] at hC2
    have hsm := sm_of (g := r.g) (by have := hs.es; unfold R.g; simp only; omega) ho.c
    have hZ : ACall Tryz.prog 20 [tG r.g] (tint (endsL r.es).length) := SizeR_ok r.g hsm.s hsm.es hsm.m
    rw [t.eE] at hZ
    have hO := Ordered_ok r.ar (by have := hs.ar; omega) (fun x hx => by have := hs.l x hx; omega)
    have hbn := t.bn
    obtain ⟨n, es, ar⟩ := r
    obtain ⟨dn, des, dar⟩ := d
    obtain ⟨bn, bes, bar⟩ := b
    simp only at hbn
    subst hbn
    exact Twice_walk bn es ar dn des dar bes bar l m k B _ f1 hA hD hD2 hG hG2 hC hC2 hZ t.ll t.ml t.e9 hO hs.ar hs.l t.lr t.mr t.sb.ar t.sb.l t.br t.hB t.test
end Go.Proofs.YtfkegnhpihoncaaGreat
set_option linter.all false
namespace Go.Proofs.YtfkegnhpihoncaaGreat
open Go.ChangeShapes Go.WideShapes Go.ChangeAt Go.RowKit Go.Joins Go.Sp
set_option linter.unusedVariables false
set_option maxRecDepth 100000
theorem own : ownKnob Tryz.prog.godebug = none := by kernel_rfl
theorem laidOut : laidOutB Tryz.prog = true := by kernel_rfl
theorem edgeCells : IntCells Tryz.prog 76 3 :=
  intCells_struct Tryz.underlying76 (by kernel_rfl) (fun i f hf => by
    match i, hf with
    | 0, hf => obtain rfl := Option.some.inj hf; exact ⟨Tryz.underlying3, by kernel_rfl, rfl⟩
    | 1, hf => obtain rfl := Option.some.inj hf; exact ⟨Tryz.underlying3, by kernel_rfl, rfl⟩
    | 2, hf => obtain rfl := Option.some.inj hf; exact ⟨Tryz.underlying3, by kernel_rfl, rfl⟩
    | n + 3, hf => simp at hf)
def toE (r : List Int) : E := ⟨r.getD 0 0, r.getD 1 0, r.getD 2 0⟩
theorem eRows_of {rows : List (List Int)} (h : ∀ r, r ∈ rows → r.length = 3) : rows.map tInts = eRows (rows.map toE) := by
  simp only [eRows, List.map_map]
  refine List.map_congr_left fun r hr => ?_
  match r, h r hr with
  | [a, b, c], _ => rfl
theorem intCell : IntCells Tryz.prog 3 1 := intCells_int Tryz.underlying3 (by kernel_rfl)
end Go.Proofs.YtfkegnhpihoncaaGreat
set_option linter.all false
namespace Go.Proofs.YtfkegnhpihoncaaGreat
open Go.ChangeShapes Go.WideShapes Go.ChangeAt Go.RowKit Go.Joins Go.Sp
set_option linter.unusedVariables false
set_option maxRecDepth 100000
theorem open_ribbon {H : Type} {enc : TypeId × Value → H} {w : World} {r : Reach} {b0 base : Nat} {spare : Nat → Bool} {held : Bool} {v : Value} {d : DataW H} {p : List MemPlace}
    (hv : Value.okWide Tryz.prog w r b0 27 v) (h : DataW.Trod enc Tryz.prog w base spare held 27 v d p) : ∃ x : R, TVRel (fun _ _ => True) w (tR x) v := by
  obtain ⟨cs, rfl, hsz⟩ := okWide_struct Tryz.underlying27 hv
  have hC : Tryz.prog.cellsOf 27 = 3 := by kernel_rfl
  have hC2 : Tryz.prog.cellsOf 24 = 2 := by kernel_rfl
  have hC1 : Tryz.prog.cellsOf 25 = 1 := by kernel_rfl
  have hC0 : Tryz.prog.cellsOf 3 = 1 := by kernel_rfl
  have hCe : Tryz.prog.cellsOf 22 = 1 := by kernel_rfl
  have hCi : Tryz.prog.cellsOf 40 = 1 := by kernel_rfl
  obtain ⟨c0, c1, c2, rfl⟩ := array3 (hsz.trans hC)
  obtain ⟨fuel, hf⟩ := h
  obtain ⟨xs, m, -, -, -, hx, hg⟩ := DataW.trod_struct Tryz.underlying27 hf
  have g0 : DataW.trod enc Tryz.prog w base spare held m 24 (([c0, c1, c2].drop 0).take (Tryz.prog.cellsOf 24)) = xs[0]? := hg 0 _ rfl
  have g1 : DataW.trod enc Tryz.prog w base spare held m 25 (([c0, c1, c2].drop 2).take (Tryz.prog.cellsOf 25)) = xs[1]? := hg 1 _ rfl
  have hx2 : xs.length = 2 := hx
  rw [List.getElem?_eq_getElem (by omega)] at g0 g1
  simp only [hC2, hC1, List.drop_zero, List.take_succ_cons, List.take_zero, List.drop_succ_cons, List.drop_zero] at g0 g1
  obtain ⟨ys, m', -, -, -, hy, hk⟩ := DataW.trod_struct Tryz.underlying24 g0
  have k0 : DataW.trod enc Tryz.prog w base spare held m' 3 (([c0, c1].drop 0).take (Tryz.prog.cellsOf 3)) = ys[0]? := hk 0 _ rfl
  have k1 : DataW.trod enc Tryz.prog w base spare held m' 22 (([c0, c1].drop 1).take (Tryz.prog.cellsOf 22)) = ys[1]? := hk 1 _ rfl
  have hy2 : ys.length = 2 := hy
  rw [List.getElem?_eq_getElem (by omega)] at k0 k1
  simp only [hC0, hCe, List.drop_zero, List.take_succ_cons, List.take_zero, List.drop_succ_cons] at k0 k1
  obtain ⟨n, hn, -, -⟩ := DataW.trod_int Tryz.underlying3 k0
  obtain rfl : c0 = .int .i64 n := by simpa using hn
  obtain ⟨rows, hr, -, ht⟩ := open_rows Tryz.underlying22 edgeCells (by decide) k1
  rw [eRows_of fun r hr' => (hr r hr').1] at ht
  obtain ⟨ls, -, hl⟩ := open_rows2 Tryz.underlying25 Tryz.underlying40 hCi intCell g1
  refine ⟨⟨n, rows.map toE, ls⟩, #[.int .i64 n, c1, c2], rfl, rfl, fun j c u hc hu => ?_⟩
  match j, hc, hu with
  | 0, hc, hu => simp at hc hu; subst hc hu; exact .int _ _
  | 1, hc, hu => simp at hc hu; subst hc hu; exact ht
  | 2, hc, hu => simp at hc hu; subst hc hu; exact hl
  | k + 3, hc, hu => simp at hc
end Go.Proofs.YtfkegnhpihoncaaGreat
