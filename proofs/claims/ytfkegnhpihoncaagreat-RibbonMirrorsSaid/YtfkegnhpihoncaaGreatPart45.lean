/- A part of the proof: contracts of functions of the program, and plain lemmas. -/
import Derived.Test.YtfkegnhpihoncaaGreatPart32
import Derived.Test.YtfkegnhpihoncaaGreatPart42
import Derived.Test.YtfkegnhpihoncaaGreatPart44
import Derived.Test.YtfkegnhpihoncaaGreatPart17
import Derived.Test.YtfkegnhpihoncaaGreatLayerC
set_option linter.all false
namespace Go.Proofs.YtfkegnhpihoncaaGreat
open Go.Sp
set_option linter.unusedSimpArgs false
set_option linter.unusedVariables false
set_option maxHeartbeats 4000000
set_option maxRecDepth 100000
theorem sortI_congr {l m : List Int} (h : l.Perm m) : sortI l = sortI m := by
  refine List.Perm.eq_of_pairwise (le := fun x y : Int => x ≤ y) (fun a b _ _ h1 h2 => Int.le_antisymm h1 h2) ?_ ?_ ((sortI_perm l).trans (h.trans (sortI_perm m).symm))
  · have := List.pairwise_mergeSort (le := fun x y : Int => decide (x ≤ y)) (fun a b c h1 h2 => by simp at *; omega) (fun a b => by simp; omega) l
    exact this.imp fun h => by simpa using h
  · have := List.pairwise_mergeSort (le := fun x y : Int => decide (x ≤ y)) (fun a b c h1 h2 => by simp at *; omega) (fun a b => by simp; omega) m
    exact this.imp fun h => by simpa using h
def szI (X : List (List Int)) : List Int := X.map fun l => (l.length : Int)
theorem szI_len (X : List (List Int)) : (szI X).length = X.length := by simp [szI]
def vI (S : List Int) (cap : Nat) : Blk := .box (iC S ++ List.replicate (cap - S.length) .any)
theorem blkIn_vI {m : Nat} {S : List Int} {cap : Nat} : blkIn m (vI S cap) := by
  intro c hc
  rcases List.mem_append.1 hc with h | h
  · obtain ⟨x, _, rfl⟩ := List.mem_map.1 h; trivial
  · rw [List.eq_of_mem_replicate h]; trivial
def mcA (n : Nat) : Nat → ACell
  | 0 => .vec 4 0 0
  | _ + 1 => .ref 4 1 0 n n
def mcB (n : Nat) : Nat → ACell
  | 0 => .vec 5 0 0
  | 1 => .vec 5 0 0
  | _ + 2 => .ref 5 1 0 n n
def mbA (S : List Int) : Nat → Blk
  | 0 => .box []
  | _ + 1 => .box (iC S)
def mbB (S : List Int) : Nat → Blk
  | 0 => .box []
  | 1 => .box []
  | _ + 2 => .box (iC S)
theorem iC_noJ {j : Nat} {S : List Int} : ∀ c, c ∈ iC S → noJ j c = true := fun c hc => by
  obtain ⟨x, _, rfl⟩ := List.mem_map.1 hc
  rfl
theorem cast0 : ((0 : Nat) : Int) = 0 := rfl
theorem cast1 : ((1 : Nat) : Int) = 1 := rfl
theorem cast2 : ((2 : Nat) : Int) = 2 := rfl
theorem Mirrors_ok (r : R) : ACall Tryz.prog 8 [tR r] (tbool true) := by
  have hA := awake44_ok
  have f1 := rightR_ok r
  by_cases hr : rightR r = true
  case neg =>
    simp only [Bool.not_eq_true] at hr
    rw [hr] at f1
    obtain ⟨n, es, ar⟩ := r
    refine ACall.of_body Tryz.func8 rfl (by kernel_rfl) ?_
    simp only [entry, Tryz.ntmps8, tR]
    refine zU ?_
    refine zR trivial (zc f1 (zc hA trivial)) trivial ?_
    simp [Rets, aret, Blk.cells, ty, Tryz.results8, ares, toT1, toT, borrow, borrow0, capCell, toTree0, tbool]
  rw [hr] at f1
  obtain ⟨hf, he⟩ := rightR_iff.1 hr
  have hs := rsm_of hf
  have ho := rok_of he
  have hs2 := rsm_mir hs
  have he2 := mir_rib he
  have ho2 := rok_of he2
  have hM := rMirror_ok r hs
  have hM2 := rMirror_ok (mirR r) hs2
  have hF := rFaces_ok r hs
  have hF2 := rFaces_ok (mirR r) hs2
  rw [if_neg (by omega), he] at hM hF
  rw [if_neg (by omega), he2] at hM2 hF2
  have s1 := SameRR_ok r r hs hs
  rw [(sameR_iff _ _).2 rfl] at s1
  have emm : mirL (mirR r).ar = r.ar := mir_mir ho
  rw [emm] at hM2
  have hfe1 := facesR_le r
  have hfe2 := facesR_le (mirR r)
  have hlen : (endsL r.es).length ≤ 2000 := ends_len (g := r.g) hs.es ho.c
  have hlen2 : (endsL (mirR r).es).length = (endsL r.es).length := rfl
  have hl1 := facesI_len r
  have hl2 := facesI_len (mirR r)
  have hmln := mir_len he
  obtain ⟨_, _, hpos⟩ := euler_of ho
  have hsz : sortI (szI (facesI r)) = sortI (szI (facesI (mirR r))) := by
    have e : ∀ q : R, szI (facesI q) = ((facesR q).map List.length).map fun x : Nat => (x : Int) := fun q => by
      unfold szI facesI
      rw [List.map_map, List.map_map]
      refine List.map_congr_left fun l _ => ?_
      simp [natI]
    rw [e, e]
    exact sortI_congr ((mir_sizes he).map _)
  have hxs : ∀ l, l ∈ facesI r → l.length < 2 ^ 40 := fun l hl => by have := facesI_short ho hl; omega
  have hys : ∀ l, l ∈ facesI (mirR r) → l.length < 2 ^ 40 := fun l hl => by have := facesI_short ho2 hl; omega
  have hlX : (facesI r).length < 2 ^ 40 := by omega
  have hlY : (facesI (mirR r)).length = (facesI r).length := by omega
  have hpX : 0 < (facesI r).length := by omega
  generalize facesI r = X at *
  generalize facesI (mirR r) = Y at *
  clear hr he he2 ho ho2 hf hs hs2 hfe1 hfe2 hlen hlen2 hl1 hl2 hmln hpos emm
  obtain ⟨n, es, ar⟩ := r
  simp only [mirR, tR] at hM hM2 hF2
  simp only [tR] at s1
  generalize mirL ar = MA at *
  have hXl := llRows_len X
  have hYl := llRows_len Y
  have hXY : ((Y.length : Nat) : Int) = ((X.length : Nat) : Int) := by omega
  refine ACall.of_body Tryz.func8 rfl (by kernel_rfl) ?_
  simp only [entry, Tryz.ntmps8, tR]
  refine zU ?_
  repeat' ((fail_if_success (with_reducible refine AWp.atSeq 10 ?_));(fail_if_success (with_reducible refine AWp.atLast 10 ?_));first|((first|(refine zT ?_;intro K' hK')|(refine zG ?_ ?_<;>(try refine zH ?_)<;>intro hguard<;>(try exact zX)<;>try intro K' hK'))<;>((try simp +contextual only [go_sem, hXl, hYl, hXY]);(repeat' first|(with_reducible refine hK' _ _ ?_;clear hK' K')|((with_reducible first|refine zK f1 ?_|refine zK hM ?_|refine zK hM2 ?_|refine zK hF ?_|refine zK hF2 ?_|refine zK s1 ?_);try simp +contextual only [go_sem, hXl, hYl, hXY])|exact zY|with_reducible refine And.intro ?_ ?_|(with_reducible intro hpath;try exact zP)|(refine hK' _ _ ?_;clear hK' K')|fail);try refine zS ?_))|(refine zE ?_;refine hK _ _ ?_;clear hK K)|(refine zN ?_;try refine zS ?_)|refine zA ?_|(refine zB ?_;intro K hK)|(refine zC ?_ ?_<;>(try refine zH ?_)<;>intro hcond<;>try exact zX)|fail)
  refine AWp.weak (Weak.asVecB 3 0 rfl rfl (Nat.zero_le _)) ?_
  refine AWp.weak (Weak.asVecB 3 1 rfl rfl (Nat.zero_le _)) ?_
  simp only [List.set_cons_succ, List.set_cons_zero, List.length_cons, List.length_nil, List.length_append, Nat.reduceAdd, List.cons_append, List.nil_append]
  refine zRc trivial trivial trivial ?_
  rw [cast2]
  change AWp _ _ _ _ _ ⟨_, [_, _, _, .box [mcA X.length 0, mcB X.length 0], mbA (sortI (szI X)) 0, mbB (sortI (szI Y)) 0]⟩
  refine AWp.loopS (α:=Nat) 99 (fun k=>[(1,.c (.ptr 0 0)),(11,.c (.ptr 3 0)),(63,.c (.slice [[Tree.slice (llRows X)], [Tree.slice (llRows Y)]] .exact)),(64,.c (.int .i64 2)),(65,.c (.int .i64 (k : Int)))]) (fun k=>[.box [.int .i64 n, .slice (eRows es) .none, .slice (llRows ar) .none], .box [.int .i64 n, .slice (eRows es) .none, .slice (llRows MA) .none], .box [.int .i64 n, .slice (eRows es) .none, .slice (llRows ar) .none], .box [mcA X.length k, mcB X.length k], mbA (sortI (szI X)) k, mbB (sortI (szI Y)) k]) (fun k=>k ≤ 2) (fun k=>2 - k) (0) (hk:=Weak.headL 6 99 [1, 11, 63, 64, 65] (zV @blkIn_vI)) (h0:=?_) (round:=fun k hI=>?_)
  · exact Nat.zero_le _
  · have hk : k ≤ 2 := hI
    clear hI
    have hS1 : (sortI (szI X)).length = X.length := (sortI_perm _).length_eq.trans (szI_len X)
    have hS2 : (sortI (szI Y)).length = X.length := (sortI_perm _).length_eq.trans ((szI_len Y).trans hlY)
    rcases (show k = 0 ∨ k = 1 ∨ k = 2 by omega) with rfl | rfl | rfl
    ·
      simp only [mcA, mcB, mbA, mbB]
      have hZl : X.length = X.length := rfl
      have hLl : ((llRows X).length : Int) = X.length := by rw [llRows_len]
      refine zR (zc @hLl (zc @llRows_len (zc @hZl (zc @cast0 (zc @cast1 (zc @Int.toNat_one (zc @Int.toNat_zero trivial))))))) trivial trivial ?_
      refine AWp.loopS (α:=(Nat × Nat)) 99 (fun s=>[(1,.c (.ptr 0 0)),(11,.c (.ptr 3 0)),(12,.c (.int .i64 0)),(63,.c (.slice [[Tree.slice (llRows X)], [Tree.slice (llRows Y)]] .exact)),(64,.c (.int .i64 2)),(65,.c (.int .i64 0)),(70,.c (.slice (llRows X) .none)),(71,.c (.int .i64 (X.length : Int))),(72,.c (.int .i64 (s.1 : Int)))]) (fun s=>[.box [.int .i64 n, .slice (eRows es) .none, .slice (llRows ar) .none], .box [.int .i64 n, .slice (eRows es) .none, .slice (llRows MA) .none], .box [.int .i64 n, .slice (eRows es) .none, .slice (llRows ar) .none], .box [.vec 4 s.1 s.2, .vec 5 0 0], vI ((szI X).take s.1) s.2, .box []]) (fun s=>s.1 ≤ X.length ∧ s.1 ≤ s.2) (fun s=>X.length - s.1) ((0, 0)) (hk:=Weak.headL 6 99 [1, 11, 12, 63, 64, 65, 70, 71, 72] (zV @blkIn_vI)) (h0:=?_) (round:=fun s hI=>?_)
      · exact ⟨Nat.zero_le _, Nat.le_refl _⟩
      · obtain ⟨j, cap⟩ := s
        obtain ⟨hj, hcap⟩ := hI
        simp only at hj hcap ⊢
        have htl : ((szI X).take j).length = j := by rw [List.length_take, szI_len]; omega
        by_cases hjl : j < X.length
        · have hjI : (j : Int) < (X.length : Int) := by omega
          have g0 := List.getElem?_eq_getElem (show j < X.length by omega)
          have g1 := llRows_get g0
          have hts : (szI X).take (j + 1) = (szI X).take j ++ [((X[j]'(by omega)).length : Int)] := by
            rw [List.take_succ_eq_append_getElem (by rw [szI_len]; omega)]
            simp [szI]
          generalize X[j]'(by omega) = f at *
          generalize hT2 : (szI X).take (j + 1) = T2 at *
          generalize (szI X).take j = T at *
          repeat' (first|((with_reducible refine AWp.seq (AWp.of_reg (id:=16) (AReg.pre 7 (fun K hK=>?_))));simp only [List.take_succ_cons,List.take_zero])|((with_reducible refine AWp.of_reg (id:=16) (AReg.pre 7 (fun K hK=>?_)));simp only [List.take_succ_cons,List.take_zero])|((first|(refine zT ?_;intro K' hK')|(refine zG ?_ ?_<;>(try refine zH ?_)<;>intro hguard<;>(try exact zX)<;>try intro K' hK'))<;>((try simp +contextual only [go_sem, hjI, g1, llRows_len, iRows_len, Int.toNat_natCast, hZl]);(repeat' first|(with_reducible refine hK' _ _ ?_;clear hK' K')|exact zY|with_reducible refine And.intro ?_ ?_|(with_reducible intro hpath;try exact zP)|(refine hK' _ _ ?_;clear hK' K')|fail);try refine zS ?_))|(refine zE ?_;refine hK _ _ ?_;clear hK K)|(refine zN ?_;try refine zS ?_)|refine zA ?_|(refine zB ?_;intro K hK)|(refine zC ?_ ?_<;>(try refine zH ?_)<;>intro hcond<;>try exact zX)|fail)
          simp only [List.drop_succ_cons, List.drop_zero]
          refine AReg.weak (Weak.cell 3 0 .any rfl rfl (Nat.zero_le _) (fun _ _ _ _ _ _ => trivial)) ?_
          simp only [List.set_cons_succ, List.set_cons_zero]
          refine AReg.grow (e := 3) (e2 := 3) (by' := 8) (z := .int .i64 0) (j := 4) (tr := .int .i64 (f.length : Int)) (tok := .exact) (used := iC T) rfl rfl rfl (by simp only [ty]) (by simp only [ty]) (by simp only [ty]) (by simp only [ty]) rfl (by simp only [ty]) rfl (by show some (vI T cap) = _; unfold vI; rw [htl]) (by rw [iC_len, htl]) hcap (Nat.zero_le _) rfl (by omega) (by omega) ?_ iC_noJ (fun cap' hc' => ?_)
          · intro i blk hb hne
            match i, hb with
            | 0, hb => cases hb; intro c hc; simp at hc; rcases hc with rfl | rfl | rfl <;> rfl
            | 1, hb => cases hb; intro c hc; simp at hc; rcases hc with rfl | rfl | rfl <;> rfl
            | 2, hb => cases hb; intro c hc; simp at hc; rcases hc with rfl | rfl | rfl <;> rfl
            | 3, hb => cases hb; intro c hc; simp at hc; rcases hc with rfl | rfl <;> rfl
            | 4, hb => exact absurd rfl hne
            | 5, hb => cases hb; intro c hc; simp at hc
            | q + 6, hb => simp at hb
          refine AReg.rest (fun K hK => ?_)
          simp only [List.map_cons, List.map_nil, fgt, fgtC, noJ, noK, aput, List.set_cons_succ, List.set_cons_zero, cellOf, ofTree, bne_self_eq_false, show ((3 : Nat) != 4) = true from rfl, show ((0 : Nat) != 4) = true from rfl, if_true, Bool.false_eq_true, if_false]
          have hbx : Blk.box (iC T ++ [ACell.int .i64 (f.length : Int)] ++ List.replicate (cap' - (j + 1)) .any) = vI T2 cap' := by
            unfold vI
            rw [hts, List.length_append, htl, List.length_singleton, iC_app]; rfl
          rw [hbx]
          repeat' (first|((first|(refine zT ?_;intro K' hK')|(refine zG ?_ ?_<;>(try refine zH ?_)<;>intro hguard<;>(try exact zX)<;>try intro K' hK'))<;>((try simp +contextual only [go_sem]);(repeat' first|(with_reducible refine hK' _ _ ?_;clear hK' K')|exact zY|with_reducible refine And.intro ?_ ?_|(with_reducible intro hpath;try exact zP)|(refine hK' _ _ ?_;clear hK' K')|fail);try refine zS ?_))|(refine zE ?_;refine hK _ _ ?_;clear hK K)|(refine zN ?_;try refine zS ?_)|refine zA ?_|(refine zB ?_;intro K hK)|(refine zC ?_ ?_<;>(try refine zH ?_)<;>intro hcond<;>try exact zX)|fail)
          refine ⟨(j + 1, cap'),Weak.headF 6 99 [1, 11, 12, 63, 64, 65, 70, 71, 72] (zc @hT2 trivial) (zV @blkIn_vI),?_,?_⟩
          · exact ⟨hjl, hc'⟩
          · simp only; omega
        · have ej : j = X.length := by omega
          have hnj : ¬ ((j : Int) < (X.length : Int)) := by omega
          have hTe : (szI X).take j = szI X := List.take_of_length_le (by rw [szI_len]; omega)
          rw [hTe] at htl ⊢
          subst ej
          repeat' ((fail_if_success (with_reducible refine AWp.atSeq 18 ?_));(fail_if_success (with_reducible refine AWp.atLast 18 ?_));first|((first|(refine zT ?_;intro K' hK')|(refine zG ?_ ?_<;>(try refine zH ?_)<;>intro hguard<;>(try exact zX)<;>try intro K' hK'))<;>((try simp +contextual only [go_sem, hnj]);(repeat' first|(with_reducible refine hK' _ _ ?_;clear hK' K')|exact zY|with_reducible refine And.intro ?_ ?_|(with_reducible intro hpath;try exact zP)|(refine hK' _ _ ?_;clear hK' K')|fail);try refine zS ?_))|(refine zE ?_;refine hK _ _ ?_;clear hK K)|(refine zN ?_;try refine zS ?_)|refine zA ?_|(refine zB ?_;intro K hK)|(refine zC ?_ ?_<;>(try refine zH ?_)<;>intro hcond<;>try exact zX)|fail)
          refine AWp.weak (Weak.vecRefB 3 0 4 X.length cap (used := iC (szI X)) (rest := List.replicate (cap - (szI X).length) .any) rfl rfl rfl (by decide) hpX hcap (Nat.zero_le _) (Nat.zero_le _)) ?_
          simp only [List.set_cons_succ, List.set_cons_zero]
          have hSo := SortI_ok (szI X) (by rw [szI_len]; omega) (H := [.box [.int .i64 n, .slice (eRows es) .none, .slice (llRows ar) .none], .box [.int .i64 n, .slice (eRows es) .none, .slice (llRows MA) .none], .box [.int .i64 n, .slice (eRows es) .none, .slice (llRows ar) .none], .box [.ref 4 1 0 X.length X.length, .vec 5 0 0], .box (iC (szI X)), .box []]) (id := 4) (cap := X.length) (by rw [flat_iRows]; rfl)
          rw [flat_iRows, htl] at hSo
          simp only [List.set_cons_succ, List.set_cons_zero] at hSo
          repeat' (first|((first|(refine zT ?_;intro K' hK')|(refine zG ?_ ?_<;>(try refine zH ?_)<;>intro hguard<;>(try exact zX)<;>try intro K' hK'))<;>((try simp +contextual only [go_sem]);(repeat' first|(with_reducible refine hK' _ _ ?_;clear hK' K')|((with_reducible first|refine ⟨_,_,hSo,?_⟩|refine ⟨_,hSo,?_⟩);try simp +contextual only [go_sem])|exact zY|with_reducible refine And.intro ?_ ?_|(with_reducible intro hpath;try exact zP)|(refine hK' _ _ ?_;clear hK' K')|fail);try refine zS ?_))|(refine zE ?_;refine hK _ _ ?_;clear hK K)|(refine zN ?_;try refine zS ?_)|refine zA ?_|(refine zB ?_;intro K hK)|(refine zC ?_ ?_<;>(try refine zH ?_)<;>intro hcond<;>try exact zX)|fail)
          refine ⟨1,Weak.headN 6 99 [1, 11, 63, 64, 65] (zV @blkIn_vI) (e1:=by first|rfl|(simp [mask,keepL, mcA, mcB, mbA, mbB];done)|(simp [mask,keepL, mcA, mcB, mbA, mbB]<;>simp_all<;>omega)) (e2:=by first|rfl|(simp [mask,keepL, mcA, mcB, mbA, mbB];done)|(simp [mask,keepL, mcA, mcB, mbA, mbB]<;>simp_all<;>omega)),?_,?_⟩
          · decide
          · decide
    ·
      simp only [mcA, mcB, mbA, mbB]
      have hZl : Y.length = X.length := hlY
      have hLl : ((llRows Y).length : Int) = X.length := by rw [llRows_len]; omega
      refine zR (zc @hLl (zc @llRows_len (zc @hZl (zc @cast0 (zc @cast1 (zc @Int.toNat_one (zc @Int.toNat_zero trivial))))))) trivial trivial ?_
      refine AWp.loopS (α:=(Nat × Nat)) 99 (fun s=>[(1,.c (.ptr 0 0)),(11,.c (.ptr 3 0)),(12,.c (.int .i64 1)),(63,.c (.slice [[Tree.slice (llRows X)], [Tree.slice (llRows Y)]] .exact)),(64,.c (.int .i64 2)),(65,.c (.int .i64 1)),(70,.c (.slice (llRows Y) .none)),(71,.c (.int .i64 (X.length : Int))),(72,.c (.int .i64 (s.1 : Int)))]) (fun s=>[.box [.int .i64 n, .slice (eRows es) .none, .slice (llRows ar) .none], .box [.int .i64 n, .slice (eRows es) .none, .slice (llRows MA) .none], .box [.int .i64 n, .slice (eRows es) .none, .slice (llRows ar) .none], .box [.ref 4 1 0 X.length X.length, .vec 5 s.1 s.2], .box (iC (sortI (szI X))), vI ((szI Y).take s.1) s.2]) (fun s=>s.1 ≤ X.length ∧ s.1 ≤ s.2) (fun s=>X.length - s.1) ((0, 0)) (hk:=Weak.headL 6 99 [1, 11, 12, 63, 64, 65, 70, 71, 72] (zV @blkIn_vI)) (h0:=?_) (round:=fun s hI=>?_)
      · exact ⟨Nat.zero_le _, Nat.le_refl _⟩
      · obtain ⟨j, cap⟩ := s
        obtain ⟨hj, hcap⟩ := hI
        simp only at hj hcap ⊢
        have htl : ((szI Y).take j).length = j := by rw [List.length_take, szI_len]; omega
        by_cases hjl : j < X.length
        · have hjI : (j : Int) < (X.length : Int) := by omega
          have g0 := List.getElem?_eq_getElem (show j < Y.length by omega)
          have g1 := llRows_get g0
          have hts : (szI Y).take (j + 1) = (szI Y).take j ++ [((Y[j]'(by omega)).length : Int)] := by
            rw [List.take_succ_eq_append_getElem (by rw [szI_len]; omega)]
            simp [szI]
          generalize Y[j]'(by omega) = f at *
          generalize hT2 : (szI Y).take (j + 1) = T2 at *
          generalize (szI Y).take j = T at *
          repeat' (first|((with_reducible refine AWp.seq (AWp.of_reg (id:=16) (AReg.pre 7 (fun K hK=>?_))));simp only [List.take_succ_cons,List.take_zero])|((with_reducible refine AWp.of_reg (id:=16) (AReg.pre 7 (fun K hK=>?_)));simp only [List.take_succ_cons,List.take_zero])|((first|(refine zT ?_;intro K' hK')|(refine zG ?_ ?_<;>(try refine zH ?_)<;>intro hguard<;>(try exact zX)<;>try intro K' hK'))<;>((try simp +contextual only [go_sem, hjI, g1, llRows_len, iRows_len, Int.toNat_natCast, hZl]);(repeat' first|(with_reducible refine hK' _ _ ?_;clear hK' K')|exact zY|with_reducible refine And.intro ?_ ?_|(with_reducible intro hpath;try exact zP)|(refine hK' _ _ ?_;clear hK' K')|fail);try refine zS ?_))|(refine zE ?_;refine hK _ _ ?_;clear hK K)|(refine zN ?_;try refine zS ?_)|refine zA ?_|(refine zB ?_;intro K hK)|(refine zC ?_ ?_<;>(try refine zH ?_)<;>intro hcond<;>try exact zX)|fail)
          simp only [List.drop_succ_cons, List.drop_zero]
          refine AReg.weak (Weak.cell 3 1 .any rfl rfl (Nat.zero_le _) (fun _ _ _ _ _ _ => trivial)) ?_
          simp only [List.set_cons_succ, List.set_cons_zero]
          refine AReg.grow (e := 3) (e2 := 3) (by' := 8) (z := .int .i64 0) (j := 5) (tr := .int .i64 (f.length : Int)) (tok := .exact) (used := iC T) rfl rfl rfl (by simp only [ty]) (by simp only [ty]) (by simp only [ty]) (by simp only [ty]) rfl (by simp only [ty]) rfl (by show some (vI T cap) = _; unfold vI; rw [htl]) (by rw [iC_len, htl]) hcap (Nat.zero_le _) rfl (by omega) (by omega) ?_ iC_noJ (fun cap' hc' => ?_)
          · intro i blk hb hne
            match i, hb with
            | 0, hb => cases hb; intro c hc; simp at hc; rcases hc with rfl | rfl | rfl <;> rfl
            | 1, hb => cases hb; intro c hc; simp at hc; rcases hc with rfl | rfl | rfl <;> rfl
            | 2, hb => cases hb; intro c hc; simp at hc; rcases hc with rfl | rfl | rfl <;> rfl
            | 3, hb => cases hb; intro c hc; simp at hc; rcases hc with rfl | rfl <;> rfl
            | 4, hb => cases hb; exact iC_noJ
            | 5, hb => exact absurd rfl hne
            | q + 6, hb => simp at hb
          refine AReg.rest (fun K hK => ?_)
          simp only [List.map_cons, List.map_nil, fgt, fgtC, noJ, noK, aput, List.set_cons_succ, List.set_cons_zero, cellOf, ofTree, bne_self_eq_false, show ((3 : Nat) != 5) = true from rfl, show ((0 : Nat) != 5) = true from rfl, if_true, Bool.false_eq_true, if_false]
          have hbx : Blk.box (iC T ++ [ACell.int .i64 (f.length : Int)] ++ List.replicate (cap' - (j + 1)) .any) = vI T2 cap' := by
            unfold vI
            rw [hts, List.length_append, htl, List.length_singleton, iC_app]; rfl
          rw [hbx]
          repeat' (first|((first|(refine zT ?_;intro K' hK')|(refine zG ?_ ?_<;>(try refine zH ?_)<;>intro hguard<;>(try exact zX)<;>try intro K' hK'))<;>((try simp +contextual only [go_sem]);(repeat' first|(with_reducible refine hK' _ _ ?_;clear hK' K')|exact zY|with_reducible refine And.intro ?_ ?_|(with_reducible intro hpath;try exact zP)|(refine hK' _ _ ?_;clear hK' K')|fail);try refine zS ?_))|(refine zE ?_;refine hK _ _ ?_;clear hK K)|(refine zN ?_;try refine zS ?_)|refine zA ?_|(refine zB ?_;intro K hK)|(refine zC ?_ ?_<;>(try refine zH ?_)<;>intro hcond<;>try exact zX)|fail)
          refine ⟨(j + 1, cap'),Weak.headF 6 99 [1, 11, 12, 63, 64, 65, 70, 71, 72] (zc @hT2 trivial) (zV @blkIn_vI),?_,?_⟩
          · exact ⟨hjl, hc'⟩
          · simp only; omega
        · have ej : j = X.length := by omega
          have hnj : ¬ ((j : Int) < (X.length : Int)) := by omega
          have hTe : (szI Y).take j = szI Y := List.take_of_length_le (by rw [szI_len]; omega)
          rw [hTe] at htl ⊢
          subst ej
          repeat' ((fail_if_success (with_reducible refine AWp.atSeq 18 ?_));(fail_if_success (with_reducible refine AWp.atLast 18 ?_));first|((first|(refine zT ?_;intro K' hK')|(refine zG ?_ ?_<;>(try refine zH ?_)<;>intro hguard<;>(try exact zX)<;>try intro K' hK'))<;>((try simp +contextual only [go_sem, hnj]);(repeat' first|(with_reducible refine hK' _ _ ?_;clear hK' K')|exact zY|with_reducible refine And.intro ?_ ?_|(with_reducible intro hpath;try exact zP)|(refine hK' _ _ ?_;clear hK' K')|fail);try refine zS ?_))|(refine zE ?_;refine hK _ _ ?_;clear hK K)|(refine zN ?_;try refine zS ?_)|refine zA ?_|(refine zB ?_;intro K hK)|(refine zC ?_ ?_<;>(try refine zH ?_)<;>intro hcond<;>try exact zX)|fail)
          refine AWp.weak (Weak.vecRefB 3 1 5 X.length cap (used := iC (szI Y)) (rest := List.replicate (cap - (szI Y).length) .any) rfl rfl rfl (by decide) hpX hcap (Nat.zero_le _) (Nat.zero_le _)) ?_
          simp only [List.set_cons_succ, List.set_cons_zero]
          have hSo := SortI_ok (szI Y) (by rw [szI_len]; omega) (H := [.box [.int .i64 n, .slice (eRows es) .none, .slice (llRows ar) .none], .box [.int .i64 n, .slice (eRows es) .none, .slice (llRows MA) .none], .box [.int .i64 n, .slice (eRows es) .none, .slice (llRows ar) .none], .box [.ref 4 1 0 X.length X.length, .ref 5 1 0 X.length X.length], .box (iC (sortI (szI X))), .box (iC (szI Y))]) (id := 5) (cap := X.length) (by rw [flat_iRows]; rfl)
          rw [flat_iRows, htl] at hSo
          simp only [List.set_cons_succ, List.set_cons_zero] at hSo
          repeat' (first|((first|(refine zT ?_;intro K' hK')|(refine zG ?_ ?_<;>(try refine zH ?_)<;>intro hguard<;>(try exact zX)<;>try intro K' hK'))<;>((try simp +contextual only [go_sem]);(repeat' first|(with_reducible refine hK' _ _ ?_;clear hK' K')|((with_reducible first|refine ⟨_,_,hSo,?_⟩|refine ⟨_,hSo,?_⟩);try simp +contextual only [go_sem])|exact zY|with_reducible refine And.intro ?_ ?_|(with_reducible intro hpath;try exact zP)|(refine hK' _ _ ?_;clear hK' K')|fail);try refine zS ?_))|(refine zE ?_;refine hK _ _ ?_;clear hK K)|(refine zN ?_;try refine zS ?_)|refine zA ?_|(refine zB ?_;intro K hK)|(refine zC ?_ ?_<;>(try refine zH ?_)<;>intro hcond<;>try exact zX)|fail)
          refine ⟨2,Weak.headN 6 99 [1, 11, 63, 64, 65] (zV @blkIn_vI) (e1:=by first|rfl|(simp [mask,keepL, mcA, mcB, mbA, mbB];done)|(simp [mask,keepL, mcA, mcB, mbA, mbB]<;>simp_all<;>omega)) (e2:=by first|rfl|(simp [mask,keepL, mcA, mcB, mbA, mbB];done)|(simp [mask,keepL, mcA, mcB, mbA, mbB]<;>simp_all<;>omega)),?_,?_⟩
          · decide
          · decide
    ·
      simp only [mcA, mcB, mbA, mbB]
      rw [← hsz]
      have hE := Equal_ok (sortI (szI X)) (sortI (szI X)) (by omega) (by omega)
      rw [decide_eq_true rfl] at hE
      generalize sortI (szI X) = S at *
      have b1 : ∀ a b c d e : Blk, borrow [a, b, c, d, .box (iC S), e] (.ref 4 1 0 X.length X.length) = some (.slice (iRows S)) := fun a b c d e => iC_ref hS1 rfl
      have b2 : ∀ a b c d e : Blk, borrow [a, b, c, d, e, .box (iC S)] (.ref 5 1 0 X.length X.length) = some (.slice (iRows S)) := fun a b c d e => iC_ref hS1 rfl
      have hq : ∀ a b c d : Blk, ACallH Tryz.prog 38 [a, b, c, d, .box (iC S), .box (iC S)] [.c (.ref 4 1 0 X.length X.length), .c (.ref 5 1 0 X.length X.length)] [a, b, c, d, .box (iC S), .box (iC S)] (.c (.bool true)) := fun a b c d =>
        ACall.hb hE (by simp [toT, toT1, b1, b2, tints]) rfl
      repeat' (first|((first|(refine zT ?_;intro K' hK')|(refine zG ?_ ?_<;>(try refine zH ?_)<;>intro hguard<;>(try exact zX)<;>try intro K' hK'))<;>((try simp +contextual only [go_sem]);(repeat' first|(with_reducible refine hK' _ _ ?_;clear hK' K')|((with_reducible first|refine ⟨_,_,(hq _ _ _ _),?_⟩|refine ⟨_,(hq _ _ _ _),?_⟩|refine zK hA ?_);try simp +contextual only [go_sem])|exact zY|with_reducible refine And.intro ?_ ?_|(with_reducible intro hpath;try exact zP)|(refine hK' _ _ ?_;clear hK' K')|fail);try refine zS ?_))|(refine zE ?_;refine hK _ _ ?_;clear hK K)|(refine zN ?_;try refine zS ?_)|refine zA ?_|(refine zB ?_;intro K hK)|(refine zC ?_ ?_<;>(try refine zH ?_)<;>intro hcond<;>try exact zX)|fail)
      simp [Rets, aret, Blk.cells, ty, Tryz.results8, ares, toT1, toT, borrow, borrow0, capCell, toTree0, tbool]
end Go.Proofs.YtfkegnhpihoncaaGreat
