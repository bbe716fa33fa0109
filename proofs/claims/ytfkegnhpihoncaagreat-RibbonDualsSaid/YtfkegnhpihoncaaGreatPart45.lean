/- A part of the proof: contracts of functions of the program, and plain lemmas. -/
import Derived.Test.YtfkegnhpihoncaaGreatPart44
import Derived.Test.YtfkegnhpihoncaaGreatPart43
import Derived.Test.YtfkegnhpihoncaaGreatPart25
import Derived.Test.YtfkegnhpihoncaaGreatLayerC
import Derived.Test.YtfkegnhpihoncaaGreatPart26
import Derived.Test.YtfkegnhpihoncaaGreatPart22
set_option linter.all false
namespace Go.Proofs.YtfkegnhpihoncaaGreat
open Go.Sp
set_option linter.unusedSimpArgs false
set_option linter.unusedVariables false
set_option maxHeartbeats 4000000
set_option maxRecDepth 100000
theorem turning_walk (n : Int) (es : List E) (ar : List (List Int)) (F : List (List Int)) (O : List Int) (J : List (Int × Int)) (M : G × Int)
  (hFs : ACall Tryz.prog 17 [tR ⟨n, es, ar⟩] (tlists F)) (hNs : ACall Tryz.prog 122 [tR ⟨n, es, ar⟩] (tints (numI J)))
  (hM : ACall Tryz.prog 124 [tint (F.length : Int), tpairs J] (.tup [tG M.1, tint M.2])) (hJl : J.length ≤ 2000) (hFl0 : F.length ≤ 4001)
  (hO : ∀ x : Nat, x < 2 * J.length → ofI F (x : Int) = O.getD x 0) (hJ : ∀ i, i < J.length → J[i]? = some (O.getD (2 * i) 0, O.getD (2 * i + 1) 0))
  (hFx : ∀ l, l ∈ F → ∀ x, x ∈ l → 0 ≤ x ∧ x < 2 * (J.length : Int)) (hFl : ∀ l, l ∈ F → l.length ≤ 2 * J.length) :
  ACall Tryz.prog 80 [tR ⟨n, es, ar⟩] (.tup [tR (if (if 12 < F.length then 5 else M.2) ≠ 0 then ⟨0, [], []⟩ else ⟨M.1.n, M.1.es, F.map fun l => turnL (l.map (dualH O (numI J)))⟩), tints (if (if 12 < F.length then 5 else M.2) ≠ 0 then [] else numI J), tint (if 12 < F.length then 5 else M.2)]) := by
 have hNl := numI_len J
 have hNr : ∀ v, v ∈ numI J → 0 ≤ v ∧ v ≤ 2000 := fun v hv => by have := numI_range J hv; omega
 have hof := fun (x : Nat) (hx : x < 2 * J.length) => refOf_ok F (x : Int) (by omega) (fun l hl => by have := hFl l hl; omega)
 have hdh := fun (x : Nat) (hx : x < 2 * J.length) => refDualHalf_ok F O (numI J) x (by omega) (fun l hl => by have := hFl l hl; omega) (by omega) (by omega) hNr (hO x hx) (hO _ (oppH_lt hx))
 generalize hNN : numI J = Nn at *
 refine ACall.of_body Tryz.func80 rfl (by kernel_rfl) ?_
 simp only [entry, Tryz.ntmps80, tR]
 refine zU ?_
 by_cases h12 : 12 < F.length
 ·rw [if_pos h12]
  have h12I : 12 < (F.length : Int) := by omega
  rw [if_pos (by decide), if_pos (by decide)]
  refine zR (zc @h12I (zc @llRows_len trivial)) (zc hFs (zc hNs trivial)) trivial ?_
  simp [Rets, aret, Blk.cells, ty, Tryz.results80, ares, toT1, toT, borrow, borrow0, capCell, toTree0, tint, tR, tints, eRows, llRows, iRows]
 rw [if_neg h12]
 have h12I : ¬ (12 < (F.length : Int)) := by omega
 repeat' ((fail_if_success (with_reducible refine AWp.atSeq 5 ?_));(fail_if_success (with_reducible refine AWp.atLast 5 ?_));first|((first|(refine zT ?_;intro K' hK')|(refine zG ?_ ?_<;>(try refine zH ?_)<;>intro hguard<;>(try exact zX)<;>try intro K' hK'))<;>((try simp +contextual only [go_sem, h12I, llRows_len]);(repeat' first|(with_reducible refine hK' _ _ ?_;clear hK' K')|((with_reducible first|refine zK hFs ?_|refine zK hNs ?_);try simp +contextual only [go_sem, h12I, llRows_len])|exact zY|with_reducible refine And.intro ?_ ?_|(with_reducible intro hpath;try exact zP)|(refine hK' _ _ ?_;clear hK' K')|fail);try refine zS ?_))|(refine zE ?_;refine hK _ _ ?_;clear hK K)|(refine zN ?_;try refine zS ?_)|refine zA ?_|(refine zB ?_;intro K hK)|(refine zC ?_ ?_<;>(try refine zH ?_)<;>intro hcond<;>try exact zX)|fail)
 refine AWp.weak (Weak.opens ((fun t f => [f, f, f, f, f, f, f, t, f, f, f, f, f, f, f, f, f, f, f, f, f, f, f, f, f, f, f, f, f, f, f, f, f, f, f, f, f, f, f, f, f, f, f, f, f, f, f, f, f, f, f, f, f, f, f, f, f, f, f, f, f, f, f, f, f, f, f, f, f, f, f, f, f, f, f, f, f, f, f, f, f, f, f, f, f, f, f, f, f, f, f, f]) true false) 2 (by first | omega | simp)) ?_
 simp only [openS, openV, List.length_cons, List.length_nil, List.length_append, Nat.reduceAdd, List.cons_append, List.nil_append]
 refine zR trivial trivial trivial ?_
 refine AWp.loopS (α:=Nat) 92 (fun i=>[(2,.c (.ptr 1 0)),(5,.c (.slice (llRows F) .none)),(6,.c (.slice (iRows Nn) .none)),(7,.c (.slice (pRows (J.take i)) (.chain 2))),(8,.c (.int .i64 (i : Int)))]) (fun i=>[.box [.int .i64 n, .slice (eRows es) .none, .slice (llRows ar) .none], .box [.int .i64 0, .nils, .nils], .chain (J.take i).length 2]) (fun i=>i ≤ J.length) (fun i=>J.length - i) (0) (hk:=Weak.headL 3 92 [2, 5, 6, 7, 8] zW) (h0:=?_) (round:=fun i hI=>?_)
 ·exact Nat.zero_le _
 ·have hi : i ≤ J.length := hI
  clear hI
  have htl : (J.take i).length = i := by rw [List.length_take]; omega
  by_cases hlt : i < J.length
  ·have hltI : (i : Int) < (J.length : Int) := by omega
   have o1 := hof (2 * i) (by omega)
   have o2 := hof (2 * i + 1) (by omega)
   rw [hO (2 * i) (by omega)] at o1
   rw [hO (2 * i + 1) (by omega)] at o2
   have c1 : ((2 * i : Nat) : Int) = 2 * (i : Int) := by omega
   have c2 : ((2 * i + 1 : Nat) : Int) = 2 * (i : Int) + 1 := by omega
   rw [c1] at o1
   rw [c2] at o2
   have hji := hJ i hlt
   have hsn : J.take (i + 1) = J.take i ++ [(O.getD (2 * i) 0, O.getD (2 * i + 1) 0)] := take_snoc hji
   have hps : pRows (J.take i) ++ [[.int .i64 (O.getD (2 * i) 0), .int .i64 (O.getD (2 * i + 1) 0)]] = pRows (J.take (i + 1)) := by rw [hsn]; simp [pRows, pRow]
   have htl2 : (J.take (i + 1)).length = i + 1 := by rw [List.length_take]; omega
   generalize O.getD (2 * i) 0 = a at *
   generalize O.getD (2 * i + 1) 0 = b at *
   generalize hM2 : J.take (i + 1) = M2 at *
   generalize J.take i = M1 at *
   refine zRc (zc @hltI (zc @hps (zc @pRows_len (zc @iRows_len (zc @hNl (zc @htl trivial)))))) (zc o1 (zc o2 trivial)) @pRows_k' ?_
   refine ⟨i + 1,Weak.headF 3 92 [2, 5, 6, 7, 8] (zc @hM2 (zc @htl2 (zc @htl trivial))) zW,?_,?_⟩
   ·exact hlt
   ·omega
  ·have ei : i = J.length := by omega
   have hnl : ¬ ((i : Int) < (J.length : Int)) := by omega
   rw [ei] at hnl ⊢
   rw [List.take_length] at *
   obtain ⟨⟨mn, me⟩, e⟩ := M
   simp only at hM ⊢
   by_cases he : e = 0
   case neg =>
    rw [if_pos he, if_pos he]
    refine zR (zc @hnl (zc @llRows_len (zc @iRows_len (zc @hNl (zc @he trivial))))) (zc hM trivial) trivial ?_
    simp [Rets, aret, Blk.cells, ty, Tryz.results80, ares, toT1, toT, borrow, borrow0, capCell, toTree0, tint, tR, tints, eRows, llRows, iRows]
   subst he
   rw [if_neg (by omega), if_neg (by omega)]
   repeat' ((fail_if_success (with_reducible refine AWp.atSeq 13 ?_));(fail_if_success (with_reducible refine AWp.atLast 13 ?_));first|((first|(refine zT ?_;intro K' hK')|(refine zG ?_ ?_<;>(try refine zH ?_)<;>intro hguard<;>(try exact zX)<;>try intro K' hK'))<;>((try simp +contextual only [go_sem, hnl, llRows_len, iRows_len, hNl]);(repeat' first|(with_reducible refine hK' _ _ ?_;clear hK' K')|(with_reducible refine zK hM ?_;try simp +contextual only [go_sem, hnl, llRows_len, iRows_len, hNl])|exact zY|with_reducible refine And.intro ?_ ?_|(with_reducible intro hpath;try exact zP)|(refine hK' _ _ ?_;clear hK' K')|fail);try refine zS ?_))|(refine zE ?_;refine hK _ _ ?_;clear hK K)|(refine zN ?_;try refine zS ?_)|refine zA ?_|(refine zB ?_;intro K hK)|(refine zC ?_ ?_<;>(try refine zH ?_)<;>intro hcond<;>try exact zX)|fail)
   refine AWp.weak (Weak.openB 4 2 1 rfl rfl (by omega)) ?_
   simp only [List.set_cons_succ, List.set_cons_zero, List.length_cons, List.length_nil, List.length_append, Nat.reduceAdd, List.cons_append, List.nil_append]
   refine zR trivial trivial trivial ?_
   refine AWp.loopS (α:=Nat) 92 (fun i=>[(2,.c (.ptr 1 0)),(5,.c (.slice (llRows F) .none)),(6,.c (.slice (iRows Nn) .none)),(11,.c (.ptr 4 0)),(12,.c (.int .i64 (i : Int)))]) (fun i=>[.box [.int .i64 n, .slice (eRows es) .none, .slice (llRows ar) .none], .box [.int .i64 0, .nils, .nils], .chain J.length 2, .box [.int .i64 mn, .slice (eRows me) .none], .box [.int .i64 mn, .slice (eRows me) .none, .slice (llRows ((F.take i).map fun l => turnL (l.map (dualH O Nn)))) (.chain 5)], .chain ((F.take i).map fun l => turnL (l.map (dualH O Nn))).length 1]) (fun i=>i ≤ F.length) (fun i=>F.length - i) (0) (hk:=Weak.headL 6 92 [2, 5, 6, 11, 12] zW) (h0:=?_) (round:=fun i hI=>?_)
   ·exact Nat.zero_le _
   ·have hi : i ≤ F.length := hI
    clear hI
    have hdl : ((F.take i).map fun l => turnL (l.map (dualH O Nn))).length = i := by rw [List.length_map, List.length_take]; omega
    by_cases hlti : i < F.length
    ·have hltI : (i : Int) < F.length := by omega
     have e0 := List.getElem?_eq_getElem hlti
     have e1 := llRows_get e0
     have hmem := List.getElem_mem hlti
     have hsn : (F.take (i + 1)).map (fun l => turnL (l.map (dualH O Nn))) = (F.take i).map (fun l => turnL (l.map (dualH O Nn))) ++ [turnL (F[i].map (dualH O Nn))] := by
      rw [List.take_succ_eq_append_getElem hlti, List.map_append]; rfl
     have hlx := hFx _ hmem
     have hll := hFl _ hmem
     have hdl2 : ((F.take (i + 1)).map fun l => turnL (l.map (dualH O Nn))).length = i + 1 := by rw [List.length_map, List.length_take]; omega
     generalize F[i] = l at *
     generalize hD2 : (F.take (i + 1)).map (fun l => turnL (l.map (dualH O Nn))) = D2 at *
     generalize (F.take i).map (fun l => turnL (l.map (dualH O Nn))) = D1 at *
     repeat' ((fail_if_success (with_reducible refine AWp.atSeq 17 ?_));(fail_if_success (with_reducible refine AWp.atLast 17 ?_));first|((first|(refine zT ?_;intro K' hK')|(refine zG ?_ ?_<;>(try refine zH ?_)<;>intro hguard<;>(try exact zX)<;>try intro K' hK'))<;>((try simp +contextual only [go_sem, hltI, llRows_len]);(repeat' first|(with_reducible refine hK' _ _ ?_;clear hK' K')|exact zY|with_reducible refine And.intro ?_ ?_|(with_reducible intro hpath;try exact zP)|(refine hK' _ _ ?_;clear hK' K')|fail);try refine zS ?_))|(refine zE ?_;refine hK _ _ ?_;clear hK K)|(refine zN ?_;try refine zS ?_)|refine zA ?_|(refine zB ?_;intro K hK)|(refine zC ?_ ?_<;>(try refine zH ?_)<;>intro hcond<;>try exact zX)|fail)
     refine AWp.weak (Weak.opens ((fun t f => [f, f, f, f, f, f, f, f, f, f, f, f, f, t, f, f, f, f, f, f, f, f, f, f, f, f, f, f, f, f, f, f, f, f, f, f, f, f, f, f, f, f, f, f, f, f, f, f, f, f, f, f, f, f, f, f, f, f, f, f, f, f, f, f, f, f, f, f, f, f, f, f, f, f, f, f, f, f, f, f, f, f, f, f, f, f, f, f, f, f, f, f]) true false) 1 (by first | omega | simp)) ?_
     simp only [openS, openV, List.length_cons, List.length_nil, List.length_append, Nat.reduceAdd, List.cons_append, List.nil_append]
     refine zR trivial trivial trivial ?_
     refine AWp.loopS (α:=Nat) 92 (fun j=>[(2,.c (.ptr 1 0)),(5,.c (.slice (llRows F) .none)),(6,.c (.slice (iRows Nn) .none)),(11,.c (.ptr 4 0)),(12,.c (.int .i64 (i : Int))),(13,.c (.slice (iRows ((l.take j).map (dualH O Nn))) (.chain 6))),(14,.c (.int .i64 (j : Int)))]) (fun j=>[.box [.int .i64 n, .slice (eRows es) .none, .slice (llRows ar) .none], .box [.int .i64 0, .nils, .nils], .chain J.length 2, .box [.int .i64 mn, .slice (eRows me) .none], .box [.int .i64 mn, .slice (eRows me) .none, .slice (llRows D1) (.chain 5)], .chain D1.length 1, .chain ((l.take j).map (dualH O Nn)).length 1]) (fun j=>j ≤ l.length) (fun j=>l.length - j) (0) (hk:=Weak.headL 7 92 [2, 5, 6, 11, 12, 13, 14] zW) (h0:=?_) (round:=fun j hI=>?_)
     ·exact Nat.zero_le _
     ·have hj : j ≤ l.length := hI
      clear hI
      have hlt0 : ((l.take j).map (dualH O Nn)).length = j := by rw [List.length_map, List.length_take]; omega
      by_cases hltj : j < l.length
      ·have hltJ : (j : Int) < l.length := by omega
       have f0 := List.getElem?_eq_getElem hltj
       have f1 := iRows_get f0
       have hx := hlx _ (List.getElem_mem hltj)
       have hsn2 : (l.take (j + 1)).map (dualH O Nn) = (l.take j).map (dualH O Nn) ++ [dualH O Nn l[j]] := by
        rw [List.take_succ_eq_append_getElem hltj, List.map_append]; rfl
       have hrs := iRows_snoc ((l.take j).map (dualH O Nn)) (dualH O Nn l[j])
       rw [← hsn2] at hrs
       have hlt2 : ((l.take (j + 1)).map (dualH O Nn)).length = j + 1 := by rw [List.length_map, List.length_take]; omega
       generalize l[j] = x at *
       obtain ⟨y, rfl⟩ := Int.eq_ofNat_of_zero_le hx.1
       have hdy := hdh y (by omega)
       generalize hT2 : (l.take (j + 1)).map (dualH O Nn) = T2 at *
       generalize (l.take j).map (dualH O Nn) = T1 at *
       generalize dualH O Nn (y : Int) = z at *
       refine zRc (zc @hltI (zc @hltJ (zc @e1 (zc @f1 (zc @llRows_len (zc @iRows_len (zc @hrs (zc @hlt0 trivial)))))))) (zc hdy trivial) @iRows_k' ?_
       refine ⟨j + 1,Weak.headF 7 92 [2, 5, 6, 11, 12, 13, 14] (zc @hT2 (zc @hlt2 (zc @hlt0 trivial))) zW,?_,?_⟩
       ·exact hltj
       ·omega
      ·have ej : j = l.length := by omega
       have hnj : ¬ ((j : Int) < (l.length : Int)) := by omega
       have eT : (l.take j).map (dualH O Nn) = l.map (dualH O Nn) := by rw [ej, List.take_length]
       rw [eT] at hlt0 ⊢
       have hT := refTurned_ok (l.map (dualH O Nn)) (by rw [List.length_map]; omega)
       have hrs := llRows_snoc D1 (turnL (l.map (dualH O Nn)))
       rw [← hsn] at hrs
       generalize turnL (l.map (dualH O Nn)) = Tn at *
       generalize l.map (dualH O Nn) = T1 at *
       refine zRc (zc @hltI (zc @hnj (zc @e1 (zc @llRows_len (zc @iRows_len (zc @hrs (zc @hdl trivial))))))) (zc hT trivial) @llRows_k' ?_
       refine ⟨i + 1,Weak.headF 6 92 [2, 5, 6, 11, 12] (zc @hD2 (zc @hdl2 (zc @hdl trivial))) zW,?_,?_⟩
       ·exact hlti
       ·omega
    ·have ei2 : i = F.length := by omega
     have hnl2 : ¬ ((i : Int) < (F.length : Int)) := by omega
     rw [ei2] at hnl2 ⊢
     rw [List.take_length] at *
     refine zR (zc @hnl2 (zc @llRows_len trivial)) trivial trivial ?_
     simp [Rets, aret, Blk.cells, ty, Tryz.results80, ares, toT1, toT, borrow, borrow0, capCell, toTree0, tint, tR, tints]
theorem refTurning_ok (r : R) (hs : RSm r) (h : ribE r = 0) : ACall Tryz.prog 80 [tR r] (.tup [tR (dualD r), tints (dualN r), tint (dualE r)]) := by
 have hr := rok_of h
 have hlen : (endsL r.es).length ≤ 2000 := ends_len (g := r.g) hs.es hr.c
 have hfl := facesI_len r
 have hfe := facesR_le r
 have hJl := joinsR_len r
 have hMk := MakeR_ok ((facesI r).length : Int) (joinsR r) (by omega)
 have w := turning_walk r.n r.es r.ar (facesI r) (tabI (2 * (endsL r.es).length) (ofF r)) (joinsR r) (makeE (facesI r).length (joinsR r)) (refFaces_ok r hs hr) (refNumbers_ok r hs hr) hMk (by omega) (by omega)
  (fun x hx => by
   rw [ofI_of (by omega), List.getD_eq_getElem?_getD, tabI_get _ (by omega)]; rfl)
  (fun i hi => by
   rw [List.getD_eq_getElem?_getD, List.getD_eq_getElem?_getD, tabI_get _ (by omega), tabI_get _ (by omega)]
   have : i < (endsL r.es).length := by omega
   simp [joinsR, this])
  (fun l hl x hx => by have := facesI_mem hr hl hx; rw [hJl]; exact this) (fun l hl => by have := facesI_short hr hl; omega)
 have eE : dualE r = if 12 < (facesI r).length then 5 else (makeE (facesI r).length (joinsR r)).2 := by
  unfold dualE dualM
  rw [if_neg (by omega), hfl]
 have eM : dualM r = makeE (facesI r).length (joinsR r) := by unfold dualM; rw [hfl]
 unfold dualD dualN dualAr
 rw [eE, eM]
 exact w
theorem refDual_ok (r : R) (hs : RSm r) : ACall Tryz.prog 39 [tR r] (.tup [tR (dualD r), tints (dualN r), tint (dualE r)]) := by
 have hC := refCheck_ok r hs
 by_cases h : ribE r = 0
 ·have hT := refTurning_ok r hs h
  rw [h] at hC
  generalize dualE r = e at *
  generalize dualN r = N at *
  generalize dualD r = D at *
  obtain ⟨dn, des, dar⟩ := D
  clear h hs
  obtain ⟨n, es, ar⟩ := r
  simp only [tR] at hT
  refine ACall.of_body Tryz.func39 rfl (by kernel_rfl) ?_
  simp only [entry, Tryz.ntmps39, tR]
  refine zU ?_
  refine zR trivial (zc hC (zc hT trivial)) trivial ?_
  simp [Rets, aret, Blk.cells, ty, Tryz.results39, ares, toT1, toT, borrow, borrow0, capCell, toTree0, tint, tR, tints]
 ·have eE : dualE r = ribE r := by unfold dualE; rw [if_pos h]
  have eD : dualD r = ⟨0, [], []⟩ := by unfold dualD; rw [if_pos (by rw [eE]; exact h)]
  have eN : dualN r = [] := by unfold dualN; rw [if_pos (by rw [eE]; exact h)]
  rw [eE, eD, eN]
  generalize ribE r = E at *
  clear hs eE eD eN
  obtain ⟨n, es, ar⟩ := r
  refine ACall.of_body Tryz.func39 rfl (by kernel_rfl) ?_
  simp only [entry, Tryz.ntmps39, tR]
  refine zU ?_
  refine zR (zc @h trivial) (zc hC trivial) trivial ?_
  simp [Rets, aret, Blk.cells, ty, Tryz.results39, ares, toT1, toT, borrow, borrow0, capCell, toTree0, tint, tR, tints, eRows, llRows, iRows]
end Go.Proofs.YtfkegnhpihoncaaGreat
set_option linter.all false
namespace Go.Proofs.YtfkegnhpihoncaaGreat
open Go.Sp
set_option linter.unusedSimpArgs false
set_option linter.unusedVariables false
set_option maxHeartbeats 4000000
set_option maxRecDepth 100000
end Go.Proofs.YtfkegnhpihoncaaGreat
