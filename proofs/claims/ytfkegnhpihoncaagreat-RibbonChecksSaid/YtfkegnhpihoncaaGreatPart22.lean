/- A part of the proof: contracts of functions of the program, and plain lemmas. -/
import Derived.Test.YtfkegnhpihoncaaGreatPart19
import Derived.Test.YtfkegnhpihoncaaGreatPart21
import Derived.Test.YtfkegnhpihoncaaGreatLayerC
import Derived.Test.YtfkegnhpihoncaaGreatPart04
import Derived.Test.YtfkegnhpihoncaaGreatSpOpen
import Derived.Test.YtfkegnhpihoncaaGreatRows
import Derived.WalkKit
import Derived.ProofKit
import Derived.OpenShut
import Derived.ShutString
import Derived.ChangeOld
import Derived.Below
import Derived.Lib.SmallJoins
import Derived.Test.YtfkegnhpihoncaaGreatPart10
set_option linter.all false
namespace Go.Proofs.YtfkegnhpihoncaaGreat
open Go.Sp
set_option linter.unusedSimpArgs false
set_option linter.unusedVariables false
set_option maxHeartbeats 4000000
set_option maxRecDepth 100000
theorem refTurned_ok (l : List Int) (hl : l.length < 2 ^ 30) : ACall Tryz.prog 62 [tints l] (tints (turnL l)) := by
  refine ACall.of_body Tryz.func62 rfl (by kernel_rfl) ?_
  simp only [entry, Tryz.ntmps62, tints]
  refine zU ?_
  refine zR trivial trivial trivial ?_
  refine AWp.loopS (α:=Nat) 30 (fun k=>[(0,.c (.slice (iRows l) .none)),(3,.c (.int .i64 ((leastGo l k : Nat) : Int))),(4,.c (.int .i64 ((k : Int) + 1)))]) (fun k=>[]) (fun k=>k = 0 ∨ k + 1 ≤ l.length) (fun k=>l.length - k) (0) (hk:=Weak.headL 0 30 [0, 3, 4] zW) (h0:=?_) (round:=fun k hI=>?_)
  · exact .inl rfl
  · have hk := hI
    clear hI
    obtain ⟨s1, _, _⟩ := leastGo_spec l k
    by_cases hlt : k + 1 < l.length
    · have hltI : (k : Int) + 1 < (l.length : Int) := by omega
      have e0 := List.getElem?_eq_getElem hlt
      have e1 := iRows_get e0
      have f0 := List.getElem?_eq_getElem (show leastGo l k < l.length by omega)
      have f1 := iRows_get f0
      have hgo : leastGo l (k + 1) = if l.getD (k + 1) 0 < l.getD (leastGo l k) 0 then k + 1 else leastGo l k := rfl
      rw [List.getD_eq_getElem?_getD, List.getD_eq_getElem?_getD, e0, f0, Option.getD_some, Option.getD_some] at hgo
      generalize l[k + 1] = x at *
      generalize l[leastGo l k] = y at *
      have ht : ((k : Int) + 1).toNat = k + 1 := by omega
      have hll : (leastGo l k : Int) < (l.length : Int) := by omega
      by_cases hxy : x < y
      · rw [if_pos hxy] at hgo
        generalize leastGo l k = z at *
        refine zR (zc @hltI (zc @iRows_len (zc @e1 (zc @f1 (zc @ht (zc @hll (zc @hxy trivial))))))) trivial trivial ?_
        refine ⟨k + 1,Weak.headF 0 30 [0, 3, 4] (zc @hgo trivial) zW,?_,?_⟩
        · exact .inr (by omega)
        · omega
      · rw [if_neg hxy] at hgo
        generalize leastGo l k = z at *
        refine zR (zc @hltI (zc @iRows_len (zc @e1 (zc @f1 (zc @ht (zc @hll (zc @hxy trivial))))))) trivial trivial ?_
        refine ⟨k + 1,Weak.headF 0 30 [0, 3, 4] (zc @hgo trivial) zW,?_,?_⟩
        · exact .inr (by omega)
        · omega
    · have hnl : ¬ ((k : Int) + 1 < (l.length : Int)) := by omega
      have ek : k = l.length - 1 := by omega
      have el : leastGo l k = leastN l := by rw [ek]; rfl
      have hln : leastN l ≤ l.length := by omega
      have hnI : (leastN l : Int) ≤ (l.length : Int) := by omega
      rw [el]
      have hd : (iRows l).drop (leastN l) = iRows (l.drop (leastN l)) := iRows_drop l _
      have ht : (iRows l).take (leastN l) = iRows (l.take (leastN l)) := iRows_take l _
      have hta : (iRows l).take l.length = iRows l := List.take_of_length_le (by rw [iRows_len]; exact Nat.le_refl _)
      have hcat : iRows (l.drop (leastN l)) ++ iRows (l.take (leastN l)) = iRows (turnL l) := by simp [iRows, turnL]
      have hlA : (l.drop (leastN l)).length ≤ l.length := by rw [List.length_drop]; omega
      have hlB : (l.take (leastN l)).length ≤ l.length := by rw [List.length_take]; omega
      generalize turnL l = T at *
      generalize leastN l = m at *
      generalize hA : l.drop m = A at *
      generalize hB : l.take m = B at *
      refine zRc2 (zc @hnl (zc @iRows_len (zc @Int.toNat_zero (zc @hnI (zc @hd (zc @ht (zc @hta (zc @hcat trivial)))))))) trivial @iRows_k' ?_ ?_
      ·
        simp [Rets, aret, Blk.cells, ty, Tryz.results62, ares, toT1, toT, borrow, borrow0, capCell, toTree0, tints]
      ·
        simp [Rets, aret, Blk.cells, ty, Tryz.results62, ares, toT1, toT, borrow, borrow0, capCell, toTree0, tints]
theorem rev_snoc {l : List Int} {k : Nat} (hk : k < l.length) : l.reverse.take (k + 1) = l.reverse.take k ++ [l[l.length - 1 - k]] := by
  have hk' : k < l.reverse.length := by rw [List.length_reverse]; exact hk
  rw [List.take_succ_eq_append_getElem hk', List.getElem_reverse]
theorem refMirrored_ok (r : R) (hs : RSm r) : ACall Tryz.prog 32 [tR r] (tR ⟨r.n, r.es, mirL r.ar⟩) := by
  have hLl := hs.l
  have hA := hs.ar
  clear hs
  obtain ⟨n, es, ar⟩ := r
  simp only at hLl hA ⊢
  refine ACall.of_body Tryz.func32 rfl (by kernel_rfl) ?_
  simp only [entry, Tryz.ntmps32, tR]
  refine zU ?_
  repeat' ((fail_if_success (with_reducible refine AWp.atSeq 2 ?_));(fail_if_success (with_reducible refine AWp.atLast 2 ?_));first|((first|(refine zT ?_;intro K' hK')|(refine zG ?_ ?_<;>(try refine zH ?_)<;>intro hguard<;>(try exact zX)<;>try intro K' hK'))<;>((try simp +contextual only [go_sem]);(repeat' first|(with_reducible refine hK' _ _ ?_;clear hK' K')|exact zY|with_reducible refine And.intro ?_ ?_|(with_reducible intro hpath;try exact zP)|(refine hK' _ _ ?_;clear hK' K')|fail);try refine zS ?_))|(refine zE ?_;refine hK _ _ ?_;clear hK K)|(refine zN ?_;try refine zS ?_)|refine zA ?_|(refine zB ?_;intro K hK)|(refine zC ?_ ?_<;>(try refine zH ?_)<;>intro hcond<;>try exact zX)|fail)
  refine AWp.weak (Weak.openB 2 2 1 rfl rfl (by omega)) ?_
  simp only [List.set_cons_succ, List.set_cons_zero, List.length_cons, List.length_nil, List.length_append, Nat.reduceAdd, List.cons_append, List.nil_append]
  refine zR trivial trivial trivial ?_
  refine AWp.loopS (α:=Nat) 47 (fun v=>[(1,.c (.ptr 0 0)),(2,.c (.ptr 1 0)),(3,.c (.ptr 2 0)),(4,.c (.int .i64 (v : Int)))]) (fun v=>[.box [.int .i64 n, .slice (eRows es) .none, .slice (llRows ar) .none], .box [.int .i64 0, .nils, .nils], .box [.int .i64 n, .slice (eRows es) .none, .slice (llRows (mirL (ar.take v))) (.chain 3)], .chain (mirL (ar.take v)).length 1]) (fun v=>v ≤ ar.length) (fun v=>ar.length - v) (0) (hk:=Weak.headL 4 47 [1, 2, 3, 4] zW) (h0:=?_) (round:=fun v hI=>?_)
  · exact Nat.zero_le _
  · have hv : v ≤ ar.length := hI
    clear hI
    have hml : (mirL (ar.take v)).length = v := by rw [mirL_len, List.length_take]; omega
    by_cases hlt : v < ar.length
    · have hltI : (v : Int) < ar.length := by omega
      have e0 := List.getElem?_eq_getElem hlt
      have e1 := llRows_get e0
      have hl := hLl _ (List.getElem_mem hlt)
      have hsn := mirL_snoc e0
      have hml2 : (mirL (ar.take (v + 1))).length = v + 1 := by rw [mirL_len, List.length_take]; omega
      generalize ar[v] = l at *
      generalize hM2 : mirL (ar.take (v + 1)) = M2 at *
      generalize mirL (ar.take v) = M at *
      repeat' ((fail_if_success (with_reducible refine AWp.atSeq 6 ?_));(fail_if_success (with_reducible refine AWp.atLast 6 ?_));first|((first|(refine zT ?_;intro K' hK')|(refine zG ?_ ?_<;>(try refine zH ?_)<;>intro hguard<;>(try exact zX)<;>try intro K' hK'))<;>((try simp +contextual only [go_sem, hltI, llRows_len]);(repeat' first|(with_reducible refine hK' _ _ ?_;clear hK' K')|exact zY|with_reducible refine And.intro ?_ ?_|(with_reducible intro hpath;try exact zP)|(refine hK' _ _ ?_;clear hK' K')|fail);try refine zS ?_))|(refine zE ?_;refine hK _ _ ?_;clear hK K)|(refine zN ?_;try refine zS ?_)|refine zA ?_|(refine zB ?_;intro K hK)|(refine zC ?_ ?_<;>(try refine zH ?_)<;>intro hcond<;>try exact zX)|fail)
      refine AWp.weak (Weak.opens ((fun t f => [f, f, f, f, f, t, f, f, f, f, f, f, f, f, f, f, f, f, f, f, f, f, f, f, f, f, f, f, f, f, f, f, f, f, f, f, f, f, f, f, f, f, f, f, f, f, f]) true false) 1 (by first | omega | simp)) ?_
      simp only [openS, openV, List.length_cons, List.length_nil, List.length_append, Nat.reduceAdd, List.cons_append, List.nil_append]
      refine zR (zc @hltI (zc @llRows_len (zc @iRows_len (zc @e1 trivial)))) trivial trivial ?_
      rw [show (l.length : Int) - 1 = (l.length : Int) - 1 - ((0 : Nat) : Int) by omega]
      refine AWp.loopS (α:=Nat) 47 (fun k=>[(1,.c (.ptr 0 0)),(2,.c (.ptr 1 0)),(3,.c (.ptr 2 0)),(4,.c (.int .i64 (v : Int))),(5,.c (.slice (iRows (l.reverse.take k)) (.chain 4))),(6,.c (.int .i64 ((l.length : Int) - 1 - (k : Int))))]) (fun k=>[.box [.int .i64 n, .slice (eRows es) .none, .slice (llRows ar) .none], .box [.int .i64 0, .nils, .nils], .box [.int .i64 n, .slice (eRows es) .none, .slice (llRows M) (.chain 3)], .chain M.length 1, .chain (l.reverse.take k).length 1]) (fun k=>k ≤ l.length) (fun k=>l.length - k) (0) (hk:=Weak.headL 5 47 [1, 2, 3, 4, 5, 6] zW) (h0:=?_) (round:=fun k hI=>?_)
      · exact Nat.zero_le _
      · have hk : k ≤ l.length := hI
        clear hI
        have hrl : (l.reverse.take k).length = k := by rw [List.length_take, List.length_reverse]; omega
        by_cases hkl : k < l.length
        · have hge : (0 : Int) ≤ (l.length : Int) - 1 - (k : Int) := by omega
          have hlt2 : (l.length : Int) - 1 - (k : Int) < (l.length : Int) := by omega
          have ht : ((l.length : Int) - 1 - (k : Int)).toNat = l.length - 1 - k := by omega
          have g0 := List.getElem?_eq_getElem (show l.length - 1 - k < l.length by omega)
          have g1 := iRows_get g0
          have hrs := rev_snoc hkl
          have hrw := iRows_snoc (l.reverse.take k) (l[l.length - 1 - k])
          rw [← hrs] at hrw
          have hrl2 : (l.reverse.take (k + 1)).length = k + 1 := by rw [List.length_take, List.length_reverse]; omega
          have hi2 : (l.length : Int) - 1 - (k : Int) - 1 = (l.length : Int) - 1 - ((k + 1 : Nat) : Int) := by omega
          generalize l[l.length - 1 - k] = x at *
          generalize hT2 : l.reverse.take (k + 1) = T2 at *
          generalize l.reverse.take k = T1 at *
          refine zRc (zc @hltI (zc @llRows_len (zc @iRows_len (zc @e1 (zc @g1 (zc @ht (zc @hge (zc @hlt2 (zc @hrw trivial))))))))) trivial @iRows_k' ?_
          refine ⟨k + 1,Weak.headF 5 47 [1, 2, 3, 4, 5, 6] (zc @hT2 (zc @hrl2 (zc @hrl (zc @hi2 trivial)))) zW,?_,?_⟩
          · exact hkl
          · omega
        · have ek : k = l.length := by omega
          have hnl : ¬ ((0 : Int) ≤ (l.length : Int) - 1 - (k : Int)) := by omega
          have eT : l.reverse.take k = l.reverse := by rw [ek]; exact List.take_of_length_le (by rw [List.length_reverse]; exact Nat.le_refl _)
          rw [eT]
          have hT := refTurned_ok l.reverse (by rw [List.length_reverse]; omega)
          have hrs := llRows_snoc M (turnL l.reverse)
          rw [← hsn] at hrs
          generalize turnL l.reverse = Tn at *
          generalize l.reverse = T1 at *
          refine zRc (zc @hnl (zc @llRows_len (zc @hrs trivial))) (zc hT trivial) @llRows_k' ?_
          refine ⟨v + 1,Weak.headF 4 47 [1, 2, 3, 4] (zc @hM2 (zc @hml2 (zc @hml trivial))) zW,?_,?_⟩
          · exact hlt
          · omega
    · have ev : v = ar.length := by omega
      subst ev
      rw [List.take_length] at *
      have hnl : ¬ ((ar.length : Int) < ar.length) := by omega
      refine zR (zc @hnl (zc @llRows_len trivial)) trivial trivial ?_
      simp [Rets, aret, Blk.cells, ty, Tryz.results32, ares, toT1, toT, borrow, borrow0, capCell, toTree0, tR]
end Go.Proofs.YtfkegnhpihoncaaGreat
set_option linter.all false
namespace Go.Proofs.YtfkegnhpihoncaaGreat
open Go.Sp
set_option linter.unusedSimpArgs false
set_option linter.unusedVariables false
set_option maxHeartbeats 4000000
set_option maxRecDepth 100000
theorem rsm_zero : RSm ⟨0, [], []⟩ := ⟨by decide, by decide, fun l hl => by cases hl⟩
theorem rsm_def {g : G} (hl : g.es.length ≤ 40) (hj : joinedE g = 0) : RSm ⟨g.n, g.es, halvesL (endsL g.es) g.n.toNat (2 * (endsL g.es).length)⟩ := by
  have hc : checkG g = 0 := by
    unfold joinedE at hj
    by_cases h : checkG g = 0
    · exact h
    · rw [if_pos h] at hj; exact absurd hj h
  have h12 := (checkG_zero.1 hc).1
  have hlen := ends_len hl hc
  refine ⟨hl, by simp only [halvesL_len]; omega, fun l hm => ?_⟩
  obtain ⟨v, _, rfl⟩ := List.mem_map.1 hm
  have := ownL_len (endsL g.es) (v : Int) (2 * (endsL g.es).length)
  omega
theorem rsm_mir {r : R} (hs : RSm r) : RSm ⟨r.n, r.es, mirL r.ar⟩ := by
  refine ⟨hs.es, by simp only [mirL_len]; exact hs.ar, fun l hm => ?_⟩
  obtain ⟨m, hm2, rfl⟩ := List.mem_map.1 hm
  rw [turnL_len, List.length_reverse]
  exact hs.l m hm2
theorem Checks44_ok (r : R) : ACall Tryz.prog 6 [tR r] (tbool true) := by
  have hA := awake44_ok
  have f1 := FewR_ok r
  by_cases hr : fewR r = true
  case neg =>
    simp only [Bool.not_eq_true] at hr
    rw [hr] at f1
    obtain ⟨n, es, ar⟩ := r
    refine ACall.of_body Tryz.func6 rfl (by kernel_rfl) ?_
    simp only [entry, Tryz.ntmps6, tR]
    refine zU ?_
    refine zR trivial (zc f1 (zc hA trivial)) trivial ?_
    simp [Rets, aret, Blk.cells, ty, Tryz.results6, ares, toT1, toT, borrow, borrow0, capCell, toTree0, tbool]
  rw [hr] at f1
  have hs := rsm_of hr
  have hC := refCheck_ok r hs
  have hC2 := rCheck_ok r hs
  have hM := rMirror_ok r hs
  have hD := rDefault_ok r.g hs.es
  have hD2 := refDefault_ok r.g hs.es
  have hX : RSm (if joinedE r.g ≠ 0 then ⟨0, [], []⟩ else ⟨r.g.n, r.g.es, halvesL (endsL r.g.es) r.g.n.toNat (2 * (endsL r.g.es).length)⟩) := by
    by_cases hj : joinedE r.g = 0
    · rw [if_neg (by omega)]; exact rsm_def hs.es hj
    · rw [if_pos hj]; exact rsm_zero
  have s1 := SameRR_ok _ _ hX hX
  rw [(sameR_iff _ _).2 rfl] at s1
  generalize (if joinedE r.g ≠ 0 then (⟨0, [], []⟩ : R) else ⟨r.g.n, r.g.es, halvesL (endsL r.g.es) r.g.n.toNat (2 * (endsL r.g.es).length)⟩) = D at *
  generalize joinedE r.g = J at *
  obtain ⟨dn, des, dar⟩ := D
  simp only [tR] at hD hD2 s1
  by_cases he : ribE r = 0
  · rw [if_neg (by omega)] at hM
    have hM2 := refMirrored_ok r hs
    have s2 := SameRR_ok _ _ (rsm_mir hs) (rsm_mir hs)
    rw [(sameR_iff _ _).2 rfl] at s2
    rw [he] at hC hC2 hM
    clear hX
    obtain ⟨n, es, ar⟩ := r
    simp only [tR, R.g] at hD hD2 hM hM2 s2
    generalize mirL ar = M at *
    refine ACall.of_body Tryz.func6 rfl (by kernel_rfl) ?_
    simp only [entry, Tryz.ntmps6, tR]
    refine zU ?_
    repeat' (first|((first|(refine zT ?_;intro K' hK')|(refine zG ?_ ?_<;>(try refine zH ?_)<;>intro hguard<;>(try exact zX)<;>try intro K' hK'))<;>((try simp +contextual only [go_sem]);(repeat' first|(with_reducible refine hK' _ _ ?_;clear hK' K')|((with_reducible first|refine zK f1 ?_|refine zK hA ?_|refine zK hC ?_|refine zK hC2 ?_|refine zK hM ?_|refine zK hD ?_|refine zK hD2 ?_|refine zK s1 ?_|refine zK hM2 ?_|refine zK s2 ?_);try simp +contextual only [go_sem])|exact zY|with_reducible refine And.intro ?_ ?_|(with_reducible intro hpath;try exact zP)|(refine hK' _ _ ?_;clear hK' K')|fail);try refine zS ?_))|(refine zE ?_;refine hK _ _ ?_;clear hK K)|(refine zN ?_;try refine zS ?_)|refine zA ?_|(refine zB ?_;intro K hK)|(refine zC ?_ ?_<;>(try refine zH ?_)<;>intro hcond<;>try exact zX)|fail)
    simp [Rets, aret, Blk.cells, ty, Tryz.results6, ares, toT1, toT, borrow, borrow0, capCell, toTree0, tbool]
  · rw [if_pos he] at hM
    have s2 := SameRR_ok _ _ rsm_zero rsm_zero
    rw [(sameR_iff _ _).2 rfl] at s2
    generalize ribE r = E at *
    clear hX
    obtain ⟨n, es, ar⟩ := r
    simp only [tR, R.g, eRows, llRows, List.map_nil] at hD hD2 hM s2
    refine ACall.of_body Tryz.func6 rfl (by kernel_rfl) ?_
    simp only [entry, Tryz.ntmps6, tR]
    refine zU ?_
    repeat' (first|((first|(refine zT ?_;intro K' hK')|(refine zG ?_ ?_<;>(try refine zH ?_)<;>intro hguard<;>(try exact zX)<;>try intro K' hK'))<;>((try simp +contextual only [go_sem, he, eRows, llRows, List.map_nil]);(repeat' first|(with_reducible refine hK' _ _ ?_;clear hK' K')|((with_reducible first|refine zK f1 ?_|refine zK hA ?_|refine zK hC ?_|refine zK hC2 ?_|refine zK hM ?_|refine zK hD ?_|refine zK hD2 ?_|refine zK s1 ?_|refine zK s2 ?_);try simp +contextual only [go_sem, he, eRows, llRows, List.map_nil])|exact zY|with_reducible refine And.intro ?_ ?_|(with_reducible intro hpath;try exact zP)|(refine hK' _ _ ?_;clear hK' K')|fail);try refine zS ?_))|(refine zE ?_;refine hK _ _ ?_;clear hK K)|(refine zN ?_;try refine zS ?_)|refine zA ?_|(refine zB ?_;intro K hK)|(refine zC ?_ ?_<;>(try refine zH ?_)<;>intro hcond<;>try exact zX)|fail)
    simp [Rets, aret, Blk.cells, ty, Tryz.results6, ares, toT1, toT, borrow, borrow0, capCell, toTree0, tbool]
end Go.Proofs.YtfkegnhpihoncaaGreat
set_option linter.all false
namespace Go.Proofs.YtfkegnhpihoncaaGreat
open Go.ChangeShapes Go.WideShapes Go.ChangeAt Go.RowKit Go.Joins Go.Sp
set_option linter.unusedVariables false
set_option maxRecDepth 100000
theorem own : ownKnob Tryz.prog.godebug = none := by kernel_rfl
theorem laidOut : laidOutB Tryz.prog = true := by kernel_rfl
theorem edgeCells : IntCells Tryz.prog 76 3 :=
  intCells_struct Tryz.underlying76 (by kernel_rfl) (fun i f hf => by
    match i, hf with
    | 0, hf => obtain rfl := Option.some.inj hf; exact ⟨Tryz.underlying3, by kernel_rfl, rfl⟩
    | 1, hf => obtain rfl := Option.some.inj hf; exact ⟨Tryz.underlying3, by kernel_rfl, rfl⟩
    | 2, hf => obtain rfl := Option.some.inj hf; exact ⟨Tryz.underlying3, by kernel_rfl, rfl⟩
    | n + 3, hf => simp at hf)
def toE (r : List Int) : E := ⟨r.getD 0 0, r.getD 1 0, r.getD 2 0⟩
theorem eRows_of {rows : List (List Int)} (h : ∀ r, r ∈ rows → r.length = 3) : rows.map tInts = eRows (rows.map toE) := by
  simp only [eRows, List.map_map]
  refine List.map_congr_left fun r hr => ?_
  match r, h r hr with
  | [a, b, c], _ => rfl
theorem intCell : IntCells Tryz.prog 3 1 := intCells_int Tryz.underlying3 (by kernel_rfl)
end Go.Proofs.YtfkegnhpihoncaaGreat
set_option linter.all false
namespace Go.Proofs.YtfkegnhpihoncaaGreat
open Go.ChangeShapes Go.WideShapes Go.ChangeAt Go.RowKit Go.Joins Go.Sp
set_option linter.unusedVariables false
set_option maxRecDepth 100000
theorem open_ribbon {H : Type} {enc : TypeId × Value → H} {w : World} {r : Reach} {b0 base : Nat} {spare : Nat → Bool} {held : Bool} {v : Value} {d : DataW H} {p : List MemPlace}
    (hv : Value.okWide Tryz.prog w r b0 27 v) (h : DataW.Trod enc Tryz.prog w base spare held 27 v d p) : ∃ x : R, TVRel (fun _ _ => True) w (tR x) v := by
  obtain ⟨cs, rfl, hsz⟩ := okWide_struct Tryz.underlying27 hv
  have hC : Tryz.prog.cellsOf 27 = 3 := by kernel_rfl
  have hC2 : Tryz.prog.cellsOf 24 = 2 := by kernel_rfl
  have hC1 : Tryz.prog.cellsOf 25 = 1 := by kernel_rfl
  have hC0 : Tryz.prog.cellsOf 3 = 1 := by kernel_rfl
  have hCe : Tryz.prog.cellsOf 22 = 1 := by kernel_rfl
  have hCi : Tryz.prog.cellsOf 40 = 1 := by kernel_rfl
  obtain ⟨c0, c1, c2, rfl⟩ := array3 (hsz.trans hC)
  obtain ⟨fuel, hf⟩ := h
  obtain ⟨xs, m, -, -, -, hx, hg⟩ := DataW.trod_struct Tryz.underlying27 hf
  have g0 : DataW.trod enc Tryz.prog w base spare held m 24 (([c0, c1, c2].drop 0).take (Tryz.prog.cellsOf 24)) = xs[0]? := hg 0 _ rfl
  have g1 : DataW.trod enc Tryz.prog w base spare held m 25 (([c0, c1, c2].drop 2).take (Tryz.prog.cellsOf 25)) = xs[1]? := hg 1 _ rfl
  have hx2 : xs.length = 2 := hx
  rw [List.getElem?_eq_getElem (by omega)] at g0 g1
  simp only [hC2, hC1, List.drop_zero, List.take_succ_cons, List.take_zero, List.drop_succ_cons, List.drop_zero] at g0 g1
  obtain ⟨ys, m', -, -, -, hy, hk⟩ := DataW.trod_struct Tryz.underlying24 g0
  have k0 : DataW.trod enc Tryz.prog w base spare held m' 3 (([c0, c1].drop 0).take (Tryz.prog.cellsOf 3)) = ys[0]? := hk 0 _ rfl
  have k1 : DataW.trod enc Tryz.prog w base spare held m' 22 (([c0, c1].drop 1).take (Tryz.prog.cellsOf 22)) = ys[1]? := hk 1 _ rfl
  have hy2 : ys.length = 2 := hy
  rw [List.getElem?_eq_getElem (by omega)] at k0 k1
  simp only [hC0, hCe, List.drop_zero, List.take_succ_cons, List.take_zero, List.drop_succ_cons] at k0 k1
  obtain ⟨n, hn, -, -⟩ := DataW.trod_int Tryz.underlying3 k0
  obtain rfl : c0 = .int .i64 n := by simpa using hn
  obtain ⟨rows, hr, -, ht⟩ := open_rows Tryz.underlying22 edgeCells (by decide) k1
  rw [eRows_of fun r hr' => (hr r hr').1] at ht
  obtain ⟨ls, -, hl⟩ := open_rows2 Tryz.underlying25 Tryz.underlying40 hCi intCell g1
  refine ⟨⟨n, rows.map toE, ls⟩, #[.int .i64 n, c1, c2], rfl, rfl, fun j c u hc hu => ?_⟩
  match j, hc, hu with
  | 0, hc, hu => simp at hc hu; subst hc hu; exact .int _ _
  | 1, hc, hu => simp at hc hu; subst hc hu; exact ht
  | 2, hc, hu => simp at hc hu; subst hc hu; exact hl
  | k + 3, hc, hu => simp at hc
end Go.Proofs.YtfkegnhpihoncaaGreat
