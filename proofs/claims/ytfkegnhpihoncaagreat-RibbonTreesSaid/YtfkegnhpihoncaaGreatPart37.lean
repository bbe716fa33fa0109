/- A part of the proof. -/
import Derived.Test.YtfkegnhpihoncaaGreatPart36
import Derived.Test.YtfkegnhpihoncaaGreatLayerD
import Derived.Test.YtfkegnhpihoncaaGreatLayerC
set_option linter.all false
set_option maxHeartbeats 4000000
set_option maxRecDepth 100000
namespace Go.Proofs.YtfkegnhpihoncaaGreat
open Go.Sp
theorem cnt_succ {F : List Nat} {i : Nat} : cntF (i + 1) F = cntF i F + (if F[i]? = some i then 1 else 0) := by
 unfold cntF
 rw [List.range_succ, List.filter_append, List.length_append]
 by_cases h : F[i]? = some i
 ·rw [if_pos h]; simp [h]
 ·rw [if_neg h]; simp [h]
theorem cnt_le (F : List Nat) (i : Nat) : cntF i F ≤ i := Nat.le_trans (List.length_filter_le _ _) (by simp)
theorem ncls_le (n : Nat) (R : Nat → Nat → Prop) : ncls n R ≤ n := Nat.le_trans (List.length_filter_le _ _) (by simp)
theorem connects_ok (n : Nat) (hn : n ≤ 12) (M L : List (Int × Int)) (F : List Nat) (hF : TDe n M F) (hM : InN n M) (hL : InN n L) (hl : L.length < 2 ^ 40) :
  ACall Tryz.prog 157 [tint n, tF F, tpairs L] (tbool (decide (ncls n (Conn (M ++ L)) = 1))) := by
 obtain ⟨rt, dp, td⟩ := hF
 have hlen := td.tc.tf.len
 have hof : (fT F).map ofTree = fC F := fT_of F
 refine ACall.of_body Tryz.func157 rfl (by kernel_rfl) ?_
 simp only [entry, Tryz.ntmps157, tint, tpairs, tF]
 refine zU ?_
 refine zR (zc @hof trivial) trivial trivial ?_
 refine AWp.loopS (α:=Nat) 35 (fun i=>[(2,.c (.slice (pRows L) .none)),(4,.c (.ptr 0 0)),(7,.c (.int .i64 (cntF i F : Nat))),(11,.c (.int .i64 (n : Int))),(12,.c (.int .i64 (i : Int)))]) (fun i=>[.box (fC F)]) (fun i=>i ≤ n) (fun i=>n - i) (0) (hk:=Weak.headL 1 35 [2, 4, 7, 11, 12] (zV @fC_in)) (h0:=?_) (round:=fun i hI=>?_)
 ·exact Nat.zero_le _
 ·by_cases hlt : i < n
  ·have hltI : (i : Int) < n := by omega
   have hR := troot_call td.tc.tf i (by omega) (H := [.box (fC F)]) (id := 0) rfl
   have hs := cnt_succ (F := F) (i := i)
   have hcl := cnt_le F i
   by_cases e : rt i = i
   ·have hfx := td.tc.tf.fix i (by omega)
    rw [e] at hfx hR
    rw [if_pos hfx] at hs
    repeat' (first|((first|(refine zT ?_;intro K' hK')|(refine zG ?_ ?_<;>(try refine zH ?_)<;>intro hguard<;>(try exact zX)<;>try intro K' hK'))<;>((try simp +contextual only [go_sem, hltI]);(repeat' first|(with_reducible refine hK' _ _ ?_;clear hK' K')|((with_reducible first|refine ⟨_,_,hR,?_⟩|refine ⟨_,hR,?_⟩);try simp +contextual only [go_sem, hltI])|exact zY|with_reducible refine And.intro ?_ ?_|(with_reducible intro hpath;try exact zP)|(refine hK' _ _ ?_;clear hK' K')|fail);try refine zS ?_))|(refine zE ?_;refine hK _ _ ?_;clear hK K)|(refine zN ?_;try refine zS ?_)|refine zA ?_|(refine zB ?_;intro K hK)|(refine zC ?_ ?_<;>(try refine zH ?_)<;>intro hcond<;>try exact zX)|fail)
    refine ⟨i + 1,Weak.headF 1 35 [2, 4, 7, 11, 12] (zc @hs trivial) (zV @fC_in),?_,?_⟩
    ·exact hlt
    ·omega
   ·have hfx : ¬ F[i]? = some i := fun h => by
     have hil : i < F.length := by omega
     rw [List.getElem?_eq_getElem hil] at h
     exact e (td.tc.tf.self i hil (by simpa using h))
    rw [if_neg hfx, Nat.add_zero] at hs
    have eI : ¬ ((rt i : Nat) : Int) = i := by omega
    repeat' (first|((first|(refine zT ?_;intro K' hK')|(refine zG ?_ ?_<;>(try refine zH ?_)<;>intro hguard<;>(try exact zX)<;>try intro K' hK'))<;>((try simp +contextual only [go_sem, hltI, eI]);(repeat' first|(with_reducible refine hK' _ _ ?_;clear hK' K')|((with_reducible first|refine ⟨_,_,hR,?_⟩|refine ⟨_,hR,?_⟩);try simp +contextual only [go_sem, hltI, eI])|exact zY|with_reducible refine And.intro ?_ ?_|(with_reducible intro hpath;try exact zP)|(refine hK' _ _ ?_;clear hK' K')|fail);try refine zS ?_))|(refine zE ?_;refine hK _ _ ?_;clear hK K)|(refine zN ?_;try refine zS ?_)|refine zA ?_|(refine zB ?_;intro K hK)|(refine zC ?_ ?_<;>(try refine zH ?_)<;>intro hcond<;>try exact zX)|fail)
    refine ⟨i + 1,Weak.headN 1 35 [2, 4, 7, 11, 12] (zV @fC_in),?_,?_⟩
    ·exact hlt
    ·omega
  ·have ei : i = n := by omega
   subst ei
   have hnl : ¬ ((i : Int) < i) := by omega
   rw [td.cnt]
   refine zR (zc @hnl (zc @pRows_len trivial)) trivial trivial ?_
   refine AWp.loopS (α:=(Nat × List Nat)) 35 (fun s=>[(4,.c (.ptr 0 0)),(7,.c (.int .i64 (ncls i (Conn (M ++ L.take s.1)) : Nat))),(22,.c (.slice (pRows L) .none)),(23,.c (.int .i64 (L.length : Int))),(24,.c (.int .i64 (s.1 : Int)))]) (fun s=>[.box (fC s.2)]) (fun s=>s.1 ≤ L.length ∧ TDe i (M ++ L.take s.1) s.2) (fun s=>L.length - s.1) ((0, F)) (hk:=Weak.headL 1 35 [4, 7, 22, 23, 24] (zV @fC_in)) (h0:=?_) (round:=fun s hI=>?_)
   ·exact ⟨Nat.zero_le _, by simpa using ⟨rt, dp, td⟩⟩
   ·obtain ⟨k, F2⟩ := s
    obtain ⟨hk, hT⟩ := hI
    simp only at hk hT ⊢
    by_cases hlt2 : k < L.length
    ·have hltI : (k : Int) < L.length := by omega
     have e0 := List.getElem?_eq_getElem hlt2
     have e1 := pRows_get e0
     have hsn := take_snoc e0
     have hrng := hL _ (List.getElem_mem hlt2)
     generalize L[k] = p at *
     obtain ⟨pa, pb⟩ := p
     obtain ⟨a, rfl⟩ := Int.eq_ofNat_of_zero_le hrng.1.1
     obtain ⟨b, rfl⟩ := Int.eq_ofNat_of_zero_le hrng.2.1
     have ha : a < i := by have := hrng.1.2; simp only at this; omega
     have hb : b < i := by have := hrng.2.2; simp only at this; omega
     change L.take (k + 1) = L.take k ++ [((a : Int), (b : Int))] at hsn
     change (pRows L)[k]? = some [.int .i64 (a : Int), .int .i64 (b : Int)] at e1
     obtain ⟨rt2, dp2, t2⟩ := hT
     have hM2 : InN i (M ++ L.take k) := fun q hq => by
      rcases List.mem_append.1 hq with hq | hq
      ·exact hM q hq
      ·exact hL q (List.mem_of_mem_take hq)
     have tn := t2.snoc (a := a) (b := b) hn hM2 ha hb
     rw [List.append_assoc, ← hsn] at tn
     have hJ := tjoin_ok t2.tc.tf a b (by omega) (by omega) (H := [.box (fC F2), .box [.int .i64 (a : Int), .int .i64 (b : Int)]]) (id := 0) rfl
     have hcn := t2.tc.conn a b (by omega) (by omega)
     have hcl2 := ncls_le i (Conn (M ++ L.take k))
     by_cases e : rt2 a = rt2 b
     ·have hs := ncls_snoc_in (n := i) (hcn.1 e)
      rw [List.append_assoc, ← hsn] at hs
      rw [decide_eq_true e, Bool.not_true] at hJ
      simp only [List.set_cons_succ, List.set_cons_zero, List.cons_append, List.nil_append] at hJ
      repeat' (first|((first|(refine zT ?_;intro K' hK')|(refine zG ?_ ?_<;>(try refine zH ?_)<;>intro hguard<;>(try exact zX)<;>try intro K' hK'))<;>((try simp +contextual only [go_sem, hltI, e1, pRows_len, Int.toNat_natCast]);(repeat' first|(with_reducible refine hK' _ _ ?_;clear hK' K')|((with_reducible first|refine ⟨_,_,hJ,?_⟩|refine ⟨_,hJ,?_⟩);try simp +contextual only [go_sem, hltI, e1, pRows_len, Int.toNat_natCast])|exact zY|with_reducible refine And.intro ?_ ?_|(with_reducible intro hpath;try exact zP)|(refine hK' _ _ ?_;clear hK' K')|fail);try refine zS ?_))|(refine zE ?_;refine hK _ _ ?_;clear hK K)|(refine zN ?_;try refine zS ?_)|refine zA ?_|(refine zB ?_;intro K hK)|(refine zC ?_ ?_<;>(try refine zH ?_)<;>intro hcond<;>try exact zX)|fail)
      refine ⟨(k + 1, F2.set (rt2 a) (rt2 b)),Weak.headF 1 35 [4, 7, 22, 23, 24] (zc @hs trivial) (zV @fC_in),?_,?_⟩
      ·exact ⟨hlt2, tn⟩
      ·simp only; omega
     ·have hs := ncls_snoc_new (n := i) ha hb (fun h => e (hcn.2 h))
      rw [List.append_assoc, ← hsn] at hs
      have hsI : ((ncls i (Conn (M ++ L.take k)) : Nat) : Int) - 1 = ((ncls i (Conn (M ++ L.take (k + 1))) : Nat) : Int) := by omega
      rw [decide_eq_false e, Bool.not_false] at hJ
      simp only [List.set_cons_succ, List.set_cons_zero, List.cons_append, List.nil_append] at hJ
      repeat' (first|((first|(refine zT ?_;intro K' hK')|(refine zG ?_ ?_<;>(try refine zH ?_)<;>intro hguard<;>(try exact zX)<;>try intro K' hK'))<;>((try simp +contextual only [go_sem, hltI, e1, pRows_len, Int.toNat_natCast, hsI]);(repeat' first|(with_reducible refine hK' _ _ ?_;clear hK' K')|((with_reducible first|refine ⟨_,_,hJ,?_⟩|refine ⟨_,hJ,?_⟩);try simp +contextual only [go_sem, hltI, e1, pRows_len, Int.toNat_natCast, hsI])|exact zY|with_reducible refine And.intro ?_ ?_|(with_reducible intro hpath;try exact zP)|(refine hK' _ _ ?_;clear hK' K')|fail);try refine zS ?_))|(refine zE ?_;refine hK _ _ ?_;clear hK K)|(refine zN ?_;try refine zS ?_)|refine zA ?_|(refine zB ?_;intro K hK)|(refine zC ?_ ?_<;>(try refine zH ?_)<;>intro hcond<;>try exact zX)|fail)
      refine ⟨(k + 1, F2.set (rt2 a) (rt2 b)),Weak.headN 1 35 [4, 7, 22, 23, 24] (zV @fC_in),?_,?_⟩
      ·exact ⟨hlt2, tn⟩
      ·simp only; omega
    ·have ek : k = L.length := by omega
     subst ek
     have hnl : ¬ ((L.length : Int) < L.length) := by omega
     rw [List.take_length]
     by_cases h1 : ncls i (Conn (M ++ L)) = 1
     ·rw [decide_eq_true h1, h1]
      refine zR (zc @hnl trivial) trivial trivial ?_
      simp [Rets, aret, Blk.cells, ty, Tryz.results157, ares, toT1, toT, borrow, borrow0, capCell, toTree0, tbool]
     ·rw [decide_eq_false h1]
      have h1I : ¬ ((ncls i (Conn (M ++ L)) : Nat) : Int) = 1 := by omega
      refine zR (zc @hnl (zc @h1I trivial)) trivial trivial ?_
      simp [Rets, aret, Blk.cells, ty, Tryz.results157, ares, toT1, toT, borrow, borrow0, capCell, toTree0, tbool]
theorem dual_walk (n : Int) (es : List E) (ar : List (List Int)) (L : List (Int × Int)) (F : List (List Int)) (O : List Int) (M : G × Int)
  (hC : ACall Tryz.prog 49 [tR ⟨n, es, ar⟩] (.tup [tpairs L, tint 0]))
  (hFc : ACall Tryz.prog 50 [tR ⟨n, es, ar⟩, tint L.length] (.tup [tlists F, tints O]))
  (hM : ACall Tryz.prog 57 [tint F.length, tpairs (jK O L.length L.length)] (.tup [tG M.1, tint M.2]))
  (hL : L.length ≤ 2000) (hO : O.length = 2 * L.length) (hOr : ∀ v, v ∈ O → -10000 ≤ v ∧ v ≤ 10000) (hF12 : F.length ≤ 12) (hFx : ∀ l, l ∈ F → ∀ x, x ∈ l → 0 ≤ x ∧ x < 2 * (L.length : Int)) (hFl : ∀ l, l ∈ F → l.length ≤ 2 * L.length) :
  ACall Tryz.prog 23 [tR ⟨n, es, ar⟩] (.tup [tR (if M.2 ≠ 0 then ⟨0, [], []⟩ else ⟨M.1.n, M.1.es, F.map fun l => turnL (l.map (dualH O (numI (jK O L.length L.length))))⟩), tints (if M.2 ≠ 0 then [] else numI (jK O L.length L.length)), tint M.2]) := by
 have hN := numbers_ok (jK O L.length L.length) (by rw [jK_len]; exact hL)
 have hNl := numI_len (jK O L.length L.length)
 rw [jK_len] at hNl
 have hNr := fun v (h : v ∈ numI (jK O L.length L.length)) => numI_range (jK O L.length L.length) h
 rw [jK_len] at hNr
 have hF12I : ¬ (12 < (F.length : Int)) := by omega
 refine ACall.of_body Tryz.func23 rfl (by kernel_rfl) ?_
 simp only [entry, Tryz.ntmps23, tR]
 refine zU ?_
 repeat' (first|((first|(refine zT ?_;intro K' hK')|(refine zG ?_ ?_<;>(try refine zH ?_)<;>intro hguard<;>(try exact zX)<;>try intro K' hK'))<;>((try simp +contextual only [go_sem, llRows_len, pRows_len, hF12I, jK_zero O, Int.toNat_natCast]);(repeat' first|(with_reducible refine hK' _ _ ?_;clear hK' K')|((with_reducible first|refine zK hC ?_|refine zK hFc ?_);try simp +contextual only [go_sem, llRows_len, pRows_len, hF12I, jK_zero O, Int.toNat_natCast])|exact zY|with_reducible refine And.intro ?_ ?_|(with_reducible intro hpath;try exact zP)|(refine hK' _ _ ?_;clear hK' K')|fail);try refine zS ?_))|(refine zE ?_;refine hK _ _ ?_;clear hK K)|(refine zN ?_;try refine zS ?_)|refine zA ?_|(refine zB ?_;intro K hK)|(refine zC ?_ ?_<;>(try refine zH ?_)<;>intro hcond<;>try exact zX)|fail)
 refine AWp.loopS (α:=Nat) 138 (fun k=>[(2,.c (.ptr 1 0)),(7,.c (.slice (llRows F) .none)),(8,.c (.slice (iRows O) .none)),(9,.c (.ref 2 2 0 L.length L.length)),(46,.c (.int .i64 (L.length : Int))),(47,.c (.int .i64 (k : Int)))]) (fun k=>[.box [.int .i64 n, .slice (eRows es) .none, .slice (llRows ar) .none], .box [.int .i64 0, .nils, .nils], .box (pC (jK O L.length k))]) (fun k=>k ≤ L.length) (fun k=>L.length - k) (0) (hk:=Weak.headL 3 138 [2, 7, 8, 9, 46, 47] (by (repeat' (first | exact valsIn_nil _ | exact blksIn_nil _ | exact cellsIn_nil _ | refine And.intro ?_ ?_ | refine valsIn_cons ?_ ?_ | refine blksIn_cons ?_ ?_ | refine cellsIn_cons ?_ ?_ | exact True.intro | exact iC_in | exact pC_in | (show _ < _; omega) | exact cellsIn_map (fun _ => True.intro) | (intro c hc; cases hc; done) | (intro c hc; simp only [List.mem_cons, List.not_mem_nil, or_false] at hc; subst hc; exact True.intro) | (intro c hc; simp only [List.mem_cons, List.not_mem_nil, or_false] at hc; rcases hc with rfl | rfl <;> exact True.intro))))) (h0:=?_) (round:=fun k hI=>?_)
 ·exact Nat.zero_le _
 ·have hk : k ≤ L.length := hI
  clear hI
  by_cases hlt : k < L.length
  ·have hltI : (k : Int) < L.length := by omega
   have e1 := List.getElem?_eq_getElem (show 2 * k < O.length by omega)
   have e2 := List.getElem?_eq_getElem (show 2 * k + 1 < O.length by omega)
   have d1 : O.getD (2 * k) 0 = O[2 * k] := by rw [List.getD_eq_getElem?_getD, e1]; rfl
   have d2 : O.getD (2 * k + 1) 0 = O[2 * k + 1] := by rw [List.getD_eq_getElem?_getD, e2]; rfl
   have r1 := iRows_get e1
   have r2 := iRows_get e2
   have hst := jK_step (O := O) hlt
   rw [d1, d2] at hst
   have hset := pC_set (jK O L.length k) k O[2 * k] O[2 * k + 1]
   rw [hst] at hset
   have hjl : (pC (jK O L.length k)).length = L.length * 2 := by rw [pC_len, jK_len]
   have t1 : (2 * (k : Int)).toNat = 2 * k := by omega
   have t2 : (2 * (k : Int) + 1).toNat = 2 * k + 1 := by omega
   have b1 : 2 * (k : Int) < (O.length : Int) := by omega
   have b2 : 2 * (k : Int) + 1 < (O.length : Int) := by omega
   generalize O[2 * k] = x at *
   generalize O[2 * k + 1] = y at *
   generalize hJ2 : jK O L.length (k + 1) = J2 at *
   generalize jK O L.length k = J1 at *
   refine zR (zc @hltI (zc @t1 (zc @t2 (zc @b1 (zc @b2 (zc @r1 (zc @r2 (zc @iRows_len (zc @hset (zc @hjl trivial)))))))))) trivial trivial ?_
   refine ⟨k + 1,Weak.headF 3 138 [2, 7, 8, 9, 46, 47] (zc @hJ2 trivial) (by (repeat' (first | exact valsIn_nil _ | exact blksIn_nil _ | exact cellsIn_nil _ | refine And.intro ?_ ?_ | refine valsIn_cons ?_ ?_ | refine blksIn_cons ?_ ?_ | refine cellsIn_cons ?_ ?_ | exact True.intro | exact iC_in | exact pC_in | (show _ < _; omega) | exact cellsIn_map (fun _ => True.intro) | (intro c hc; cases hc; done) | (intro c hc; simp only [List.mem_cons, List.not_mem_nil, or_false] at hc; subst hc; exact True.intro) | (intro c hc; simp only [List.mem_cons, List.not_mem_nil, or_false] at hc; rcases hc with rfl | rfl <;> exact True.intro)))),?_,?_⟩
   ·exact hlt
   ·omega
  ·have ek : k = L.length := by omega
   subst ek
   have hnl : ¬ ((L.length : Int) < L.length) := by omega
   have hjl := jK_len O L.length L.length
   generalize jK O L.length L.length = J at *
   repeat' ((fail_if_success (with_reducible refine AWp.atSeq 13 ?_));(fail_if_success (with_reducible refine AWp.atLast 13 ?_));first|((first|(refine zT ?_;intro K' hK')|(refine zG ?_ ?_<;>(try refine zH ?_)<;>intro hguard<;>(try exact zX)<;>try intro K' hK'))<;>((try simp +contextual only [go_sem, hnl]);(repeat' first|(with_reducible refine hK' _ _ ?_;clear hK' K')|exact zY|with_reducible refine And.intro ?_ ?_|(with_reducible intro hpath;try exact zP)|(refine hK' _ _ ?_;clear hK' K')|fail);try refine zS ?_))|(refine zE ?_;refine hK _ _ ?_;clear hK K)|(refine zN ?_;try refine zS ?_)|refine zA ?_|(refine zB ?_;intro K hK)|(refine zC ?_ ?_<;>(try refine zH ?_)<;>intro hcond<;>try exact zX)|fail)
   refine AWp.freezeR 9 2 2 L.length L.length rfl rfl (pC_trees J) (pRows J) (by rw [pRows_len, hjl]) (Nat.le_refl _) (fun r hr => pRows_k' hr) (pRows_pre J) ?_
   simp only [List.set_cons_succ, List.set_cons_zero]
   obtain ⟨⟨mn, me⟩, e⟩ := M
   simp only at hM ⊢
   by_cases he : e = 0
   case neg =>
    rw [if_pos he, if_pos he]
    refine zR (zc @llRows_len (zc @he trivial)) (zc hM trivial) trivial ?_
    simp [Rets, aret, Blk.cells, ty, Tryz.results23, ares, toT1, toT, borrow, borrow0, capCell, toTree0, tint, tR, tints, eRows, llRows, iRows]
   subst he
   rw [if_neg (by omega), if_neg (by omega)]
   generalize hNN : numI J = Nn at *
   repeat' ((fail_if_success (with_reducible refine AWp.atSeq 18 ?_));(fail_if_success (with_reducible refine AWp.atLast 18 ?_));first|((first|(refine zT ?_;intro K' hK')|(refine zG ?_ ?_<;>(try refine zH ?_)<;>intro hguard<;>(try exact zX)<;>try intro K' hK'))<;>((try simp +contextual only [go_sem, llRows_len]);(repeat' first|(with_reducible refine hK' _ _ ?_;clear hK' K')|((with_reducible first|refine zK hM ?_|refine zK hN ?_);try simp +contextual only [go_sem, llRows_len])|exact zY|with_reducible refine And.intro ?_ ?_|(with_reducible intro hpath;try exact zP)|(refine hK' _ _ ?_;clear hK' K')|fail);try refine zS ?_))|(refine zE ?_;refine hK _ _ ?_;clear hK K)|(refine zN ?_;try refine zS ?_)|refine zA ?_|(refine zB ?_;intro K hK)|(refine zC ?_ ?_<;>(try refine zH ?_)<;>intro hcond<;>try exact zX)|fail)
   refine AWp.weak (Weak.openB 4 2 1 rfl rfl (by omega)) ?_
   simp only [List.set_cons_succ, List.set_cons_zero, List.length_cons, List.length_nil, List.length_append, Nat.reduceAdd, List.cons_append, List.nil_append]
   refine zR (zc @llRows_len trivial) trivial trivial ?_
   refine AWp.loopS (α:=Nat) 138 (fun i=>[(2,.c (.ptr 1 0)),(8,.c (.slice (iRows O) .none)),(12,.c (.slice (iRows Nn) .none)),(13,.c (.ptr 4 0)),(81,.c (.slice (llRows F) .none)),(82,.c (.int .i64 (F.length : Int))),(83,.c (.int .i64 (i : Int)))]) (fun i=>[.box [.int .i64 n, .slice (eRows es) .none, .slice (llRows ar) .none], .box [.int .i64 0, .nils, .nils], .ro (pT J), .box [.int .i64 mn, .slice (eRows me) .none], .box [.int .i64 mn, .slice (eRows me) .none, .slice (llRows ((F.take i).map fun l => turnL (l.map (dualH O Nn)))) (.chain 5)], .chain ((F.take i).map fun l => turnL (l.map (dualH O Nn))).length 1]) (fun i=>i ≤ F.length) (fun i=>F.length - i) (0) (hk:=Weak.headL 6 138 [2, 8, 12, 13, 81, 82, 83] (by (repeat' (first | exact valsIn_nil _ | exact blksIn_nil _ | exact cellsIn_nil _ | refine And.intro ?_ ?_ | refine valsIn_cons ?_ ?_ | refine blksIn_cons ?_ ?_ | refine cellsIn_cons ?_ ?_ | exact True.intro | exact iC_in | exact pC_in | (show _ < _; omega) | exact cellsIn_map (fun _ => True.intro) | (intro c hc; cases hc; done) | (intro c hc; simp only [List.mem_cons, List.not_mem_nil, or_false] at hc; subst hc; exact True.intro) | (intro c hc; simp only [List.mem_cons, List.not_mem_nil, or_false] at hc; rcases hc with rfl | rfl <;> exact True.intro))))) (h0:=?_) (round:=fun i hI=>?_)
   ·exact Nat.zero_le _
   ·have hi : i ≤ F.length := hI
    clear hI
    have hdl : ((F.take i).map fun l => turnL (l.map (dualH O Nn))).length = i := by rw [List.length_map, List.length_take]; omega
    by_cases hlti : i < F.length
    ·have hltI : (i : Int) < F.length := by omega
     have e0 := List.getElem?_eq_getElem hlti
     have e1 := llRows_get e0
     have hmem := List.getElem_mem hlti
     have hsn : (F.take (i + 1)).map (fun l => turnL (l.map (dualH O Nn))) = (F.take i).map (fun l => turnL (l.map (dualH O Nn))) ++ [turnL (F[i].map (dualH O Nn))] := by
      rw [List.take_succ_eq_append_getElem hlti, List.map_append]; rfl
     have hlx := hFx _ hmem
     have hll := hFl _ hmem
     have hdl2 : ((F.take (i + 1)).map fun l => turnL (l.map (dualH O Nn))).length = i + 1 := by rw [List.length_map, List.length_take]; omega
     generalize F[i] = l at *
     generalize hD2 : (F.take (i + 1)).map (fun l => turnL (l.map (dualH O Nn))) = D2 at *
     generalize (F.take i).map (fun l => turnL (l.map (dualH O Nn))) = D1 at *
     repeat' ((fail_if_success (with_reducible refine AWp.atSeq 22 ?_));(fail_if_success (with_reducible refine AWp.atLast 22 ?_));first|((first|(refine zT ?_;intro K' hK')|(refine zG ?_ ?_<;>(try refine zH ?_)<;>intro hguard<;>(try exact zX)<;>try intro K' hK'))<;>((try simp +contextual only [go_sem, hltI, e1, llRows_len, Int.toNat_natCast]);(repeat' first|(with_reducible refine hK' _ _ ?_;clear hK' K')|exact zY|with_reducible refine And.intro ?_ ?_|(with_reducible intro hpath;try exact zP)|(refine hK' _ _ ?_;clear hK' K')|fail);try refine zS ?_))|(refine zE ?_;refine hK _ _ ?_;clear hK K)|(refine zN ?_;try refine zS ?_)|refine zA ?_|(refine zB ?_;intro K hK)|(refine zC ?_ ?_<;>(try refine zH ?_)<;>intro hcond<;>try exact zX)|fail)
     refine AWp.weak (Weak.opens ((fun t f => [f, f, f, f, f, f, f, f, f, f, f, f, f, f, f, f, t, f, f, f, f, f, f, f, f, f, f, f, f, f, f, f, f, f, f, f, f, f, f, f, f, f, f, f, f, f, f, f, f, f, f, f, f, f, f, f, f, f, f, f, f, f, f, f, f, f, f, f, f, f, f, f, f, f, f, f, f, f, f, f, f, f, f, f, f, f, f, f, f, f, f, f, f, f, f, f, f, f, f, f, f, f, f, f, f, f, f, f, f, f, f, f, f, f, f, f, f, f, f, f, f, f, f, f, f, f, f, f, f, f, f, f, f, f, f, f, f, f]) true false) 1 (by first | omega | simp)) ?_
     simp only [openS, openV, List.length_cons, List.length_nil, List.length_append, Nat.reduceAdd, List.cons_append, List.nil_append]
     refine zR (zc @iRows_len trivial) trivial trivial ?_
     refine AWp.loopS (α:=Nat) 138 (fun j=>[(2,.c (.ptr 1 0)),(8,.c (.slice (iRows O) .none)),(12,.c (.slice (iRows Nn) .none)),(13,.c (.ptr 4 0)),(16,.c (.slice (iRows ((l.take j).map (dualH O Nn))) (.chain 6))),(81,.c (.slice (llRows F) .none)),(82,.c (.int .i64 (F.length : Int))),(83,.c (.int .i64 (i : Int))),(87,.c (.slice (iRows l) .none)),(88,.c (.int .i64 (l.length : Int))),(89,.c (.int .i64 (j : Int)))]) (fun j=>[.box [.int .i64 n, .slice (eRows es) .none, .slice (llRows ar) .none], .box [.int .i64 0, .nils, .nils], .ro (pT J), .box [.int .i64 mn, .slice (eRows me) .none], .box [.int .i64 mn, .slice (eRows me) .none, .slice (llRows D1) (.chain 5)], .chain D1.length 1, .chain ((l.take j).map (dualH O Nn)).length 1]) (fun j=>j ≤ l.length) (fun j=>l.length - j) (0) (hk:=Weak.headL 7 138 [2, 8, 12, 13, 16, 81, 82, 83, 87, 88, 89] (by (repeat' (first | exact valsIn_nil _ | exact blksIn_nil _ | exact cellsIn_nil _ | refine And.intro ?_ ?_ | refine valsIn_cons ?_ ?_ | refine blksIn_cons ?_ ?_ | refine cellsIn_cons ?_ ?_ | exact True.intro | exact iC_in | exact pC_in | (show _ < _; omega) | exact cellsIn_map (fun _ => True.intro) | (intro c hc; cases hc; done) | (intro c hc; simp only [List.mem_cons, List.not_mem_nil, or_false] at hc; subst hc; exact True.intro) | (intro c hc; simp only [List.mem_cons, List.not_mem_nil, or_false] at hc; rcases hc with rfl | rfl <;> exact True.intro))))) (h0:=?_) (round:=fun j hI=>?_)
     ·exact Nat.zero_le _
     ·have hj : j ≤ l.length := hI
      clear hI
      have hlt0 : ((l.take j).map (dualH O Nn)).length = j := by rw [List.length_map, List.length_take]; omega
      by_cases hltj : j < l.length
      ·have hltJ : (j : Int) < l.length := by omega
       have f0 := List.getElem?_eq_getElem hltj
       have fx := iRows_get f0
       have hxr := hlx _ (List.getElem_mem hltj)
       have hlt1 : ((l.take (j + 1)).map (dualH O Nn)).length = j + 1 := by rw [List.length_map, List.length_take]; omega
       have hsj : (l.take (j + 1)).map (dualH O Nn) = (l.take j).map (dualH O Nn) ++ [dualH O Nn l[j]] := by
        rw [List.take_succ_eq_append_getElem hltj, List.map_append]; rfl
       generalize l[j] = x at *
       obtain ⟨x, rfl⟩ := Int.eq_ofNat_of_zero_le hxr.1
       have hxl : x < 2 * L.length := by omega
       have hol := oppH_lt hxl
       have ex := List.getElem?_eq_getElem (show x < O.length by omega)
       have eo := List.getElem?_eq_getElem (show oppH x < O.length by omega)
       have en := List.getElem?_eq_getElem (show x / 2 < Nn.length by omega)
       have rx := iRows_get ex
       have ro := iRows_get eo
       have rn := iRows_get en
       have hnv := hNr _ (List.getElem_mem (show x / 2 < Nn.length by omega))
       have dx : O.getD x 0 = O[x] := by rw [List.getD_eq_getElem?_getD, ex]; rfl
       have dop : O.getD (oppH x) 0 = O[oppH x] := by rw [List.getD_eq_getElem?_getD, eo]; rfl
       have dn : Nn.getD (x / 2) 0 = Nn[x / 2] := by rw [List.getD_eq_getElem?_getD, en]; rfl
       have hdv : dualH O Nn (x : Int) = 2 * Nn[x / 2] + (if O[oppH x] < O[x] ∨ (O[x] = O[oppH x] ∧ x % 2 = 1) then 1 else 0) := by
        unfold dualH
        rw [Int.toNat_natCast, dx, dop, dn]
       have hOp := opposite_ok x (by omega)
       have hxI : (x : Int) < O.length := by omega
       have hoI : ((oppH x : Nat) : Int) < O.length := by omega
       have hqI : ((x / 2 : Nat) : Int) < Nn.length := by omega
       have hrs := iRows_snoc ((l.take j).map (dualH O Nn)) (dualH O Nn (x : Int))
       rw [← hsj, hdv] at hrs
       clear dx dop dn ex eo en hdv
       generalize O[x] = a at *
       generalize O[oppH x] = b at *
       generalize Nn[x / 2] = v at *
       generalize oppH x = ox at *
       generalize hT2 : (l.take (j + 1)).map (dualH O Nn) = T2 at *
       generalize (l.take j).map (dualH O Nn) = T1 at *
       by_cases h1 : b < a
       ·have hav : (2 * v + 1) = 2 * v + 1 := rfl
        rw [if_pos (.inl h1)] at hrs
        refine zRc (zc @hltJ (zc @hxI (zc @hoI (zc @hqI (zc @rx (zc @ro (zc @rn (zc @fx (zc @iRows_len (zc @tdiv2 (zc @tmod2 (zc @hlt0 (zc @hrs (zc @h1 trivial)))))))))))))) (zc hOp trivial) @iRows_k' ?_
        refine ⟨j + 1,Weak.headF 7 138 [2, 8, 12, 13, 16, 81, 82, 83, 87, 88, 89] (zc @hT2 (zc @hlt1 trivial)) (by (repeat' (first | exact valsIn_nil _ | exact blksIn_nil _ | exact cellsIn_nil _ | refine And.intro ?_ ?_ | refine valsIn_cons ?_ ?_ | refine blksIn_cons ?_ ?_ | refine cellsIn_cons ?_ ?_ | exact True.intro | exact iC_in | exact pC_in | (show _ < _; omega) | exact cellsIn_map (fun _ => True.intro) | (intro c hc; cases hc; done) | (intro c hc; simp only [List.mem_cons, List.not_mem_nil, or_false] at hc; subst hc; exact True.intro) | (intro c hc; simp only [List.mem_cons, List.not_mem_nil, or_false] at hc; rcases hc with rfl | rfl <;> exact True.intro)))),?_,?_⟩
        ·exact hltj
        ·omega
       ·by_cases h2 : a = b
        ·have hm : x % 2 = 0 ∨ x % 2 = 1 := by omega
         rcases hm with hm | hm
         ·have hc : ¬ (b < a ∨ (a = b ∧ x % 2 = 1)) := by omega
          rw [if_neg hc, Int.add_zero] at hrs
          refine zRc (zc @hltJ (zc @hxI (zc @hoI (zc @hqI (zc @rx (zc @ro (zc @rn (zc @fx (zc @iRows_len (zc @tdiv2 (zc @tmod2 (zc @hlt0 (zc @hrs (zc @h1 (zc @h2 (zc @hm trivial)))))))))))))))) (zc hOp trivial) @iRows_k' ?_
          refine ⟨j + 1,Weak.headF 7 138 [2, 8, 12, 13, 16, 81, 82, 83, 87, 88, 89] (zc @hT2 (zc @hlt1 trivial)) (by (repeat' (first | exact valsIn_nil _ | exact blksIn_nil _ | exact cellsIn_nil _ | refine And.intro ?_ ?_ | refine valsIn_cons ?_ ?_ | refine blksIn_cons ?_ ?_ | refine cellsIn_cons ?_ ?_ | exact True.intro | exact iC_in | exact pC_in | (show _ < _; omega) | exact cellsIn_map (fun _ => True.intro) | (intro c hc; cases hc; done) | (intro c hc; simp only [List.mem_cons, List.not_mem_nil, or_false] at hc; subst hc; exact True.intro) | (intro c hc; simp only [List.mem_cons, List.not_mem_nil, or_false] at hc; rcases hc with rfl | rfl <;> exact True.intro)))),?_,?_⟩
          ·exact hltj
          ·omega
         ·have hc : b < a ∨ (a = b ∧ x % 2 = 1) := by omega
          rw [if_pos hc] at hrs
          refine zRc (zc @hltJ (zc @hxI (zc @hoI (zc @hqI (zc @rx (zc @ro (zc @rn (zc @fx (zc @iRows_len (zc @tdiv2 (zc @tmod2 (zc @hlt0 (zc @hrs (zc @h1 (zc @h2 (zc @hm trivial)))))))))))))))) (zc hOp trivial) @iRows_k' ?_
          refine ⟨j + 1,Weak.headF 7 138 [2, 8, 12, 13, 16, 81, 82, 83, 87, 88, 89] (zc @hT2 (zc @hlt1 trivial)) (by (repeat' (first | exact valsIn_nil _ | exact blksIn_nil _ | exact cellsIn_nil _ | refine And.intro ?_ ?_ | refine valsIn_cons ?_ ?_ | refine blksIn_cons ?_ ?_ | refine cellsIn_cons ?_ ?_ | exact True.intro | exact iC_in | exact pC_in | (show _ < _; omega) | exact cellsIn_map (fun _ => True.intro) | (intro c hc; cases hc; done) | (intro c hc; simp only [List.mem_cons, List.not_mem_nil, or_false] at hc; subst hc; exact True.intro) | (intro c hc; simp only [List.mem_cons, List.not_mem_nil, or_false] at hc; rcases hc with rfl | rfl <;> exact True.intro)))),?_,?_⟩
          ·exact hltj
          ·omega
        ·have hc : ¬ (b < a ∨ (a = b ∧ x % 2 = 1)) := by omega
         rw [if_neg hc, Int.add_zero] at hrs
         refine zRc (zc @hltJ (zc @hxI (zc @hoI (zc @hqI (zc @rx (zc @ro (zc @rn (zc @fx (zc @iRows_len (zc @tdiv2 (zc @tmod2 (zc @hlt0 (zc @hrs (zc @h1 (zc @h2 trivial))))))))))))))) (zc hOp trivial) @iRows_k' ?_
         refine ⟨j + 1,Weak.headF 7 138 [2, 8, 12, 13, 16, 81, 82, 83, 87, 88, 89] (zc @hT2 (zc @hlt1 trivial)) (by (repeat' (first | exact valsIn_nil _ | exact blksIn_nil _ | exact cellsIn_nil _ | refine And.intro ?_ ?_ | refine valsIn_cons ?_ ?_ | refine blksIn_cons ?_ ?_ | refine cellsIn_cons ?_ ?_ | exact True.intro | exact iC_in | exact pC_in | (show _ < _; omega) | exact cellsIn_map (fun _ => True.intro) | (intro c hc; cases hc; done) | (intro c hc; simp only [List.mem_cons, List.not_mem_nil, or_false] at hc; subst hc; exact True.intro) | (intro c hc; simp only [List.mem_cons, List.not_mem_nil, or_false] at hc; rcases hc with rfl | rfl <;> exact True.intro)))),?_,?_⟩
         ·exact hltj
         ·omega
      ·have ej : j = l.length := by omega
       subst ej
       have hnlj : ¬ ((l.length : Int) < l.length) := by omega
       rw [List.take_length]
       rw [List.take_length] at hlt0
       have hT := turned_ok (l.map (dualH O Nn)) (by omega)
       generalize l.map (dualH O Nn) = T at *
       have hsr := llRows_snoc D1 (turnL T)
       rw [← hsn] at hsr
       refine zRc (zc @hnlj (zc @llRows_len (zc @hdl (zc @hsr trivial)))) (zc hT trivial) @llRows_k' ?_
       refine ⟨i + 1,Weak.headF 6 138 [2, 8, 12, 13, 81, 82, 83] (zc @hD2 (zc @hdl2 trivial)) (by (repeat' (first | exact valsIn_nil _ | exact blksIn_nil _ | exact cellsIn_nil _ | refine And.intro ?_ ?_ | refine valsIn_cons ?_ ?_ | refine blksIn_cons ?_ ?_ | refine cellsIn_cons ?_ ?_ | exact True.intro | exact iC_in | exact pC_in | (show _ < _; omega) | exact cellsIn_map (fun _ => True.intro) | (intro c hc; cases hc; done) | (intro c hc; simp only [List.mem_cons, List.not_mem_nil, or_false] at hc; subst hc; exact True.intro) | (intro c hc; simp only [List.mem_cons, List.not_mem_nil, or_false] at hc; rcases hc with rfl | rfl <;> exact True.intro)))),?_,?_⟩
       ·exact hlti
       ·omega
    ·have ei : i = F.length := by omega
     subst ei
     have hnli : ¬ ((F.length : Int) < F.length) := by omega
     rw [List.take_length]
     refine zR (zc @hnli trivial) trivial trivial ?_
     simp [Rets, aret, Blk.cells, ty, Tryz.results23, ares, toT1, toT, borrow, borrow0, capCell, toTree0, tint, tR, tints]
end Go.Proofs.YtfkegnhpihoncaaGreat
