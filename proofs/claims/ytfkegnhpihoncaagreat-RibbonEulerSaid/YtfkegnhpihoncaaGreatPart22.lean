/- A part of the proof: contracts of functions of the program, and plain lemmas. -/
import Derived.Test.YtfkegnhpihoncaaGreatPart17
import Derived.Test.YtfkegnhpihoncaaGreatPart20
import Derived.Test.YtfkegnhpihoncaaGreatPart21
import Derived.Test.YtfkegnhpihoncaaGreatPart11
import Derived.Test.YtfkegnhpihoncaaGreatLayerC
import Derived.Test.YtfkegnhpihoncaaGreatPart05
import Derived.Test.YtfkegnhpihoncaaGreatSpOpen
import Derived.Test.YtfkegnhpihoncaaGreatRows
import Derived.WalkKit
import Derived.ProofKit
import Derived.OpenShut
import Derived.ShutString
import Derived.ChangeOld
import Derived.Below
import Derived.Lib.SmallJoins
import Derived.Test.YtfkegnhpihoncaaGreatPart10
set_option linter.all false
namespace Go.Proofs.YtfkegnhpihoncaaGreat
open Go.Sp
set_option linter.unusedSimpArgs false
set_option linter.unusedVariables false
set_option maxHeartbeats 4000000
set_option maxRecDepth 100000
theorem mapBool : tMap Tryz.prog 39 = some (3, 4) := by simp only [ty]
def rightR (r : R) : Bool := fewR r && decide (ribE r = 0)
theorem rightR_ok (r : R) : ACall Tryz.prog 19 [tR r] (tbool (rightR r)) := by
  have f1 := FewR_ok r
  unfold rightR
  by_cases hr : fewR r = true
  · have hC := refCheck_ok r (rsm_of hr)
    rw [hr] at f1 ⊢
    rw [Bool.true_and]
    generalize ribE r = E at *
    clear hr
    obtain ⟨n, es, ar⟩ := r
    refine ACall.of_body Tryz.func19 rfl (by kernel_rfl) ?_
    simp only [entry, Tryz.ntmps19, tR]
    refine zU ?_
    by_cases hE : E = 0
    · rw [decide_eq_true hE]
      refine zR (zc @hE trivial) (zc f1 (zc hC trivial)) trivial ?_
      simp [Rets, aret, Blk.cells, ty, Tryz.results19, ares, toT1, toT, borrow, borrow0, capCell, toTree0, tbool]
    · rw [decide_eq_false hE]
      refine zR (zc @hE trivial) (zc f1 (zc hC trivial)) trivial ?_
      simp [Rets, aret, Blk.cells, ty, Tryz.results19, ares, toT1, toT, borrow, borrow0, capCell, toTree0, tbool]
  · simp only [Bool.not_eq_true] at hr
    rw [hr] at f1 ⊢
    rw [Bool.false_and]
    clear hr
    obtain ⟨n, es, ar⟩ := r
    refine ACall.of_body Tryz.func19 rfl (by kernel_rfl) ?_
    simp only [entry, Tryz.ntmps19, tR]
    refine zU ?_
    refine zR trivial (zc f1 trivial) trivial ?_
    simp [Rets, aret, Blk.cells, ty, Tryz.results19, ares, toT1, toT, borrow, borrow0, capCell, toTree0, tbool]
theorem rightR_iff {r : R} : rightR r = true ↔ fewR r = true ∧ ribE r = 0 := by
  unfold rightR; rw [Bool.and_eq_true, decide_eq_true_eq]
theorem EulerLaw_ok (r : R) : ACall Tryz.prog 4 [tR r] (tbool true) := by
  have hA := awake44_ok
  have f1 := rightR_ok r
  by_cases hr : rightR r = true
  case neg =>
    simp only [Bool.not_eq_true] at hr
    rw [hr] at f1
    obtain ⟨n, es, ar⟩ := r
    refine ACall.of_body Tryz.func4 rfl (by kernel_rfl) ?_
    simp only [entry, Tryz.ntmps4, tR]
    refine zU ?_
    refine zR trivial (zc f1 (zc hA trivial)) trivial ?_
    simp [Rets, aret, Blk.cells, ty, Tryz.results4, ares, toT1, toT, borrow, borrow0, capCell, toTree0, tbool]
  rw [hr] at f1
  obtain ⟨hf, he⟩ := rightR_iff.1 hr
  have hs := rsm_of hf
  have ho := rok_of he
  have hF := rFaces_ok r hs
  have hG := rGenus_ok r hs
  rw [if_neg (by omega), he] at hF hG
  have hsm := sm_of (g := r.g) (by have := hs.es; unfold R.g; simp only; omega) ho.c
  have hZ : ACall Tryz.prog 20 [tG r.g] (tint (endsL r.es).length) := SizeR_ok r.g hsm.s hsm.es hsm.m
  have h12 : 1 ≤ r.n ∧ r.n ≤ 12 := (checkG_zero.1 ho.c).1
  have hGe := GenusR_ok r.g r.n.toNat ho.c (by show r.n = _; omega) (by have := hs.es; show r.es.length < _; omega)
  have hcn := ho.conn
  unfold connB at hcn
  rw [decide_eq_true_eq] at hcn
  have hcn2 : partsN r.g.es r.n.toNat r.n.toNat = 1 := hcn
  rw [hcn2] at hGe
  have hH : ACall Tryz.prog 22 [tG r.g] (tint (2 * ((endsL r.es).length : Int))) := refHalf_ok r.g hs.es ho.c
  have hGe2 : ACall Tryz.prog 21 [tG r.g] (tint ((endsL r.es).length - r.n + 1)) := by
    have e : (((endsL r.g.es).length : Int) - (r.n.toNat : Int) + ((1 : Nat) : Int)) = (endsL r.es).length - r.n + 1 := by
      show ((endsL r.es).length : Int) - (r.n.toNat : Int) + 1 = _
      omega
    rw [← e]; exact hGe
  obtain ⟨q1, q2, q3⟩ := euler_law ho
  have hsp := seen_perm ho
  have hlen : (endsL r.es).length ≤ 2000 := ends_len (g := r.g) hs.es ho.c
  have hfle := facesR_le r
  unfold seenL at hsp
  have hFI : facesI r = (facesR r).map natI := rfl
  rw [hFI] at hF
  have hFl : ∀ l, l ∈ facesR r → l.length ≤ 2 * (endsL r.es).length := fun l hl => by
    have := facesI_short ho (l := natI l) (by rw [hFI]; exact List.mem_map.2 ⟨l, hl, rfl⟩)
    rwa [natI_len] at this
  generalize facesR r = F at *
  generalize genusR r = gn at *
  generalize endsL r.es = L at *
  clear hr he ho hsm hGe hcn hcn2 hFI hf hs
  obtain ⟨n, es, ar⟩ := r
  simp only [R.g] at hZ hGe2 hH q1 q2 q3 h12
  have hnd := (hsp.nodup_iff).2 List.nodup_range
  have hmem : ∀ x, x ∈ F.flatten → x < 2 * L.length := fun x hx => List.mem_range.1 (hsp.mem_iff.1 hx)
  have hfl : F.flatten.length = 2 * L.length := by rw [hsp.length_eq, List.length_range]
  have hMl : (llRows (F.map natI)).length = F.length := by rw [llRows_len, List.length_map]
  have c1 : ¬ (n - (L.length : Int) + (F.length : Int) ≠ 2 - 2 * gn) := by omega
  have c1' : n - (L.length : Int) + (F.length : Int) = 2 - 2 * gn := q1
  have c2 : ¬ (gn < 0) := by omega
  have c3 : ¬ ((L.length : Int) - n + 1 < 2 * gn) := by omega
  refine ACall.of_body Tryz.func4 rfl (by kernel_rfl) ?_
  simp only [entry, Tryz.ntmps4, tR]
  refine zU ?_
  refine zR (zc @c1' (zc @c2 (zc @c3 (zc @hMl trivial)))) (zc f1 (zc hF (zc hG (zc hZ (zc hGe2 trivial))))) trivial ?_
  refine AWp.loopS (α:=Nat) 98 (fun i=>[(1,.c (.ptr 0 0)),(7,.c (.map 1)),(59,.c (.slice (llRows (F.map natI)) .none)),(60,.c (.int .i64 (F.length : Int))),(61,.c (.int .i64 (i : Int)))]) (fun i=>[.box [.int .i64 n, .slice (eRows es) .none, .slice (llRows ar) .none], .map (mB (F.take i).flatten)]) (fun i=>i ≤ F.length) (fun i=>F.length - i) (0) (hk:=Weak.headL 2 98 [1, 7, 59, 60, 61] zW) (h0:=?_) (round:=fun i hI=>?_)
  · exact Nat.zero_le _
  · have hi : i ≤ F.length := hI
    clear hI
    by_cases hlt : i < F.length
    · have hltI : (i : Int) < F.length := by omega
      have e0 := List.getElem?_eq_getElem hlt
      have e1 : (F.map natI)[i]? = some (natI F[i]) := by rw [List.getElem?_map, e0]; rfl
      have e2 := llRows_get e1
      have htk : (F.take (i + 1)).flatten = (F.take i).flatten ++ F[i] := by rw [List.take_succ_eq_append_getElem hlt, List.flatten_append]; simp
      have hpre : ((F.take i).flatten ++ F[i]).Sublist F.flatten := by
        rw [← htk]
        conv => rhs; rw [← List.take_append_drop (i + 1) F]
        rw [List.flatten_append]
        exact List.sublist_append_left _ _
      have hll := hFl _ (List.getElem_mem hlt)
      generalize F[i] = l at *
      have hnl2 := natI_len l
      generalize hS : (F.take i).flatten = S at *
      rw [← List.append_nil S, ← show l.take 0 = [] from rfl]
      refine zR (zc @hltI (zc @e2 (zc @iRows_len (zc @hnl2 trivial)))) trivial trivial ?_
      refine AWp.loopS (α:=Nat) 98 (fun j=>[(1,.c (.ptr 0 0)),(7,.c (.map 1)),(59,.c (.slice (llRows (F.map natI)) .none)),(60,.c (.int .i64 (F.length : Int))),(61,.c (.int .i64 (i : Int))),(65,.c (.slice (iRows (natI l)) .none)),(66,.c (.int .i64 (l.length : Int))),(67,.c (.int .i64 (j : Int)))]) (fun j=>[.box [.int .i64 n, .slice (eRows es) .none, .slice (llRows ar) .none], .map (mB (S ++ l.take j))]) (fun j=>j ≤ l.length) (fun j=>l.length - j) (0) (hk:=Weak.headL 2 98 [1, 7, 59, 60, 61, 65, 66, 67] zW) (h0:=?_) (round:=fun j hI=>?_)
      · exact Nat.zero_le _
      · have hj : j ≤ l.length := hI
        clear hI
        by_cases hjl : j < l.length
        · have hjI : (j : Int) < l.length := by omega
          have g0 := List.getElem?_eq_getElem hjl
          have g1 : (natI l)[j]? = some ((l[j] : Nat) : Int) := by unfold natI; rw [List.getElem?_map, g0]; rfl
          have g2 := iRows_get g1
          have hts : S ++ l.take (j + 1) = S ++ l.take j ++ [l[j]] := by rw [List.take_succ_eq_append_getElem hjl, List.append_assoc]
          have hsub : (S ++ l.take j ++ [l[j]]).Sublist F.flatten := by
            rw [← hts]
            exact List.Sublist.trans (List.Sublist.append_left (List.take_sublist _ _) S) hpre
          have hnd2 := List.Nodup.sublist hsub hnd
          have hx := hmem _ (hsub.subset (List.mem_append_right _ (List.mem_singleton.2 rfl)))
          generalize l[j] = y at *
          generalize hT2 : S ++ l.take (j + 1) = T2 at *
          generalize S ++ l.take j = T at *
          have hni : y ∉ T := by
            rw [List.nodup_append] at hnd2
            exact fun h => hnd2.2.2 y h y (by simp) rfl
          have hval := mB_val hni (.c (.bool false))
          have hput := mB_put hni
          rw [← hts] at hput
          have y0 : ¬ ((y : Int) < 0) := by omega
          have y1 : ¬ (2 * (L.length : Int) ≤ (y : Int)) := by omega
          repeat' (first|((first|(refine zT ?_;intro K' hK')|(refine zG ?_ ?_<;>(try refine zH ?_)<;>intro hguard<;>(try exact zX)<;>try intro K' hK'))<;>((try simp +contextual only [go_sem, hjI, g2, Int.toNat_natCast, y0, y1, hval, hput, toKey]);(repeat' first|(with_reducible refine hK' _ _ ?_;clear hK' K')|(with_reducible refine zK hH ?_;try simp +contextual only [go_sem, hjI, g2, Int.toNat_natCast, y0, y1, hval, hput, toKey])|(refine ⟨_, klInt, rfl, mB_ok, ?_⟩ ; try simp +contextual only [go_sem, hjI, g2, Int.toNat_natCast, y0, y1, hval, hput, toKey])|exact zY|with_reducible refine And.intro ?_ ?_|(with_reducible intro hpath;try exact zP)|(refine hK' _ _ ?_;clear hK' K')|fail);try refine zS ?_))|(refine zE ?_;refine hK _ _ ?_;clear hK K)|(refine zN ?_;try refine zS ?_)|refine zA ?_|(refine zB ?_;intro K hK)|(refine zC ?_ ?_<;>(try refine zH ?_)<;>intro hcond<;>try exact zX)|fail)
          refine ⟨j + 1,Weak.headF 2 98 [1, 7, 59, 60, 61, 65, 66, 67] (zc @hT2 trivial) zW,?_,?_⟩
          · exact hjl
          · omega
        · have ej : j = l.length := by omega
          have hnj : ¬ ((j : Int) < (l.length : Int)) := by omega
          rw [ej, List.take_length, ← htk]
          generalize hS2 : (F.take (i + 1)).flatten = S2 at *
          refine zR (zc @hnj trivial) trivial trivial ?_
          refine ⟨i + 1,Weak.headF 2 98 [1, 7, 59, 60, 61] (zc @hS2 trivial) zW,?_,?_⟩
          · exact hlt
          · omega
    · have ei : i = F.length := by omega
      have hnl : ¬ ((i : Int) < (F.length : Int)) := by omega
      rw [ei] at hnl
      rw [ei, List.take_length]
      have hml : ((mB F.flatten).length : Int) = 2 * (L.length : Int) := by rw [mB_len, hfl]; omega
      generalize mB F.flatten = M at *
      repeat' (first|((with_reducible refine AWp.seq (AWp.of_reg (id:=19) (AReg.pre 1 (fun K hK=>?_))));simp only [List.take_succ_cons,List.take_zero])|((with_reducible refine AWp.of_reg (id:=19) (AReg.pre 1 (fun K hK=>?_)));simp only [List.take_succ_cons,List.take_zero])|((first|(refine zT ?_;intro K' hK')|(refine zG ?_ ?_<;>(try refine zH ?_)<;>intro hguard<;>(try exact zX)<;>try intro K' hK'))<;>((try simp +contextual only [go_sem, hnl]);(repeat' first|(with_reducible refine hK' _ _ ?_;clear hK' K')|exact zY|with_reducible refine And.intro ?_ ?_|(with_reducible intro hpath;try exact zP)|(refine hK' _ _ ?_;clear hK' K')|fail);try refine zS ?_))|(refine zE ?_;refine hK _ _ ?_;clear hK K)|(refine zN ?_;try refine zS ?_)|refine zA ?_|(refine zB ?_;intro K hK)|(refine zC ?_ ?_<;>(try refine zH ?_)<;>intro hcond<;>try exact zX)|fail)
      simp only [List.drop_succ_cons, List.drop_zero]
      refine AReg.lenmap rfl rfl rfl mapBool rfl rfl ?_
      simp only [aput, List.set_cons_succ, List.set_cons_zero]
      refine AReg.rest (fun K hK => ?_)
      repeat' (first|((first|(refine zT ?_;intro K' hK')|(refine zG ?_ ?_<;>(try refine zH ?_)<;>intro hguard<;>(try exact zX)<;>try intro K' hK'))<;>((try simp +contextual only [go_sem, hml]);(repeat' first|(with_reducible refine hK' _ _ ?_;clear hK' K')|((with_reducible first|refine zK hH ?_|refine zK hA ?_);try simp +contextual only [go_sem, hml])|exact zY|with_reducible refine And.intro ?_ ?_|(with_reducible intro hpath;try exact zP)|(refine hK' _ _ ?_;clear hK' K')|fail);try refine zS ?_))|(refine zE ?_;refine hK _ _ ?_;clear hK K)|(refine zN ?_;try refine zS ?_)|refine zA ?_|(refine zB ?_;intro K hK)|(refine zC ?_ ?_<;>(try refine zH ?_)<;>intro hcond<;>try exact zX)|fail)
      simp [Rets, aret, Blk.cells, ty, Tryz.results4, ares, toT1, toT, borrow, borrow0, capCell, toTree0, tbool]
end Go.Proofs.YtfkegnhpihoncaaGreat
set_option linter.all false
namespace Go.Proofs.YtfkegnhpihoncaaGreat
open Go.ChangeShapes Go.WideShapes Go.ChangeAt Go.RowKit Go.Joins Go.Sp
set_option linter.unusedVariables false
set_option maxRecDepth 100000
theorem own : ownKnob Tryz.prog.godebug = none := by kernel_rfl
theorem laidOut : laidOutB Tryz.prog = true := by kernel_rfl
theorem edgeCells : IntCells Tryz.prog 76 3 :=
  intCells_struct Tryz.underlying76 (by kernel_rfl) (fun i f hf => by
    match i, hf with
    | 0, hf => obtain rfl := Option.some.inj hf; exact ⟨Tryz.underlying3, by kernel_rfl, rfl⟩
    | 1, hf => obtain rfl := Option.some.inj hf; exact ⟨Tryz.underlying3, by kernel_rfl, rfl⟩
    | 2, hf => obtain rfl := Option.some.inj hf; exact ⟨Tryz.underlying3, by kernel_rfl, rfl⟩
    | n + 3, hf => simp at hf)
def toE (r : List Int) : E := ⟨r.getD 0 0, r.getD 1 0, r.getD 2 0⟩
theorem eRows_of {rows : List (List Int)} (h : ∀ r, r ∈ rows → r.length = 3) : rows.map tInts = eRows (rows.map toE) := by
  simp only [eRows, List.map_map]
  refine List.map_congr_left fun r hr => ?_
  match r, h r hr with
  | [a, b, c], _ => rfl
theorem intCell : IntCells Tryz.prog 3 1 := intCells_int Tryz.underlying3 (by kernel_rfl)
end Go.Proofs.YtfkegnhpihoncaaGreat
set_option linter.all false
namespace Go.Proofs.YtfkegnhpihoncaaGreat
open Go.ChangeShapes Go.WideShapes Go.ChangeAt Go.RowKit Go.Joins Go.Sp
set_option linter.unusedVariables false
set_option maxRecDepth 100000
theorem open_ribbon {H : Type} {enc : TypeId × Value → H} {w : World} {r : Reach} {b0 base : Nat} {spare : Nat → Bool} {held : Bool} {v : Value} {d : DataW H} {p : List MemPlace}
    (hv : Value.okWide Tryz.prog w r b0 27 v) (h : DataW.Trod enc Tryz.prog w base spare held 27 v d p) : ∃ x : R, TVRel (fun _ _ => True) w (tR x) v := by
  obtain ⟨cs, rfl, hsz⟩ := okWide_struct Tryz.underlying27 hv
  have hC : Tryz.prog.cellsOf 27 = 3 := by kernel_rfl
  have hC2 : Tryz.prog.cellsOf 24 = 2 := by kernel_rfl
  have hC1 : Tryz.prog.cellsOf 25 = 1 := by kernel_rfl
  have hC0 : Tryz.prog.cellsOf 3 = 1 := by kernel_rfl
  have hCe : Tryz.prog.cellsOf 22 = 1 := by kernel_rfl
  have hCi : Tryz.prog.cellsOf 40 = 1 := by kernel_rfl
  obtain ⟨c0, c1, c2, rfl⟩ := array3 (hsz.trans hC)
  obtain ⟨fuel, hf⟩ := h
  obtain ⟨xs, m, -, -, -, hx, hg⟩ := DataW.trod_struct Tryz.underlying27 hf
  have g0 : DataW.trod enc Tryz.prog w base spare held m 24 (([c0, c1, c2].drop 0).take (Tryz.prog.cellsOf 24)) = xs[0]? := hg 0 _ rfl
  have g1 : DataW.trod enc Tryz.prog w base spare held m 25 (([c0, c1, c2].drop 2).take (Tryz.prog.cellsOf 25)) = xs[1]? := hg 1 _ rfl
  have hx2 : xs.length = 2 := hx
  rw [List.getElem?_eq_getElem (by omega)] at g0 g1
  simp only [hC2, hC1, List.drop_zero, List.take_succ_cons, List.take_zero, List.drop_succ_cons, List.drop_zero] at g0 g1
  obtain ⟨ys, m', -, -, -, hy, hk⟩ := DataW.trod_struct Tryz.underlying24 g0
  have k0 : DataW.trod enc Tryz.prog w base spare held m' 3 (([c0, c1].drop 0).take (Tryz.prog.cellsOf 3)) = ys[0]? := hk 0 _ rfl
  have k1 : DataW.trod enc Tryz.prog w base spare held m' 22 (([c0, c1].drop 1).take (Tryz.prog.cellsOf 22)) = ys[1]? := hk 1 _ rfl
  have hy2 : ys.length = 2 := hy
  rw [List.getElem?_eq_getElem (by omega)] at k0 k1
  simp only [hC0, hCe, List.drop_zero, List.take_succ_cons, List.take_zero, List.drop_succ_cons] at k0 k1
  obtain ⟨n, hn, -, -⟩ := DataW.trod_int Tryz.underlying3 k0
  obtain rfl : c0 = .int .i64 n := by simpa using hn
  obtain ⟨rows, hr, -, ht⟩ := open_rows Tryz.underlying22 edgeCells (by decide) k1
  rw [eRows_of fun r hr' => (hr r hr').1] at ht
  obtain ⟨ls, -, hl⟩ := open_rows2 Tryz.underlying25 Tryz.underlying40 hCi intCell g1
  refine ⟨⟨n, rows.map toE, ls⟩, #[.int .i64 n, c1, c2], rfl, rfl, fun j c u hc hu => ?_⟩
  match j, hc, hu with
  | 0, hc, hu => simp at hc hu; subst hc hu; exact .int _ _
  | 1, hc, hu => simp at hc hu; subst hc hu; exact ht
  | 2, hc, hu => simp at hc hu; subst hc hu; exact hl
  | k + 3, hc, hu => simp at hc
end Go.Proofs.YtfkegnhpihoncaaGreat
