/- A part of the proof: contracts of functions of the program, and plain lemmas. -/
import Derived.Test.YtfkegnhpihoncaaGreatPart13
import Derived.Test.YtfkegnhpihoncaaGreatPart12
import Derived.Test.YtfkegnhpihoncaaGreatLayerC
set_option linter.all false
namespace Go.Proofs.YtfkegnhpihoncaaGreat
open Go.Sp
set_option linter.unusedSimpArgs false
set_option linter.unusedVariables false
set_option maxHeartbeats 4000000
set_option maxRecDepth 100000
theorem refEnds_ok (g : G) (hl : g.es.length ≤ 40) (hc : checkG g = 0) : ACall Tryz.prog 55 [tG g] (tpairs (endsL g.es)) := by
  have hs := sm_of (g := g) (by omega) hc
  exact EndsR_ok g hs.s hs.es hs.m
theorem refAt_ok (g : G) (hl : g.es.length ≤ 40) (hc : checkG g = 0) (h : Nat) (hh : h < 2 * (endsL g.es).length) : ACall Tryz.prog 74 [tG g, tint h] (tint (atL (endsL g.es) h)) := by
  have hE := refEnds_ok g hl hc
  have hlen := ends_len hl hc
  have e0 : (endsL g.es)[h / 2]? = some (endsL g.es)[h / 2] := List.getElem?_eq_getElem (by omega)
  have e1 := pRows_get e0
  have ea : atL (endsL g.es) h = if h % 2 = 0 then (endsL g.es)[h / 2].1 else (endsL g.es)[h / 2].2 := by unfold atL; rw [List.getD_eq_getElem?_getD, e0]; rfl
  have hlt : ((h / 2 : Nat) : Int) < (endsL g.es).length := by omega
  rw [ea]
  clear ea
  generalize (endsL g.es)[h / 2] = p at *
  obtain ⟨a, b⟩ := p
  generalize endsL g.es = L at *
  obtain ⟨n, es⟩ := g
  refine ACall.of_body Tryz.func74 rfl (by kernel_rfl) ?_
  simp only [entry, Tryz.ntmps74, tG, tint]
  refine zU ?_
  have hm : h % 2 = 0 ∨ h % 2 = 1 := by omega
  rcases hm with hm | hm
  ·
    refine zR (zc @tdiv2 (zc @tmod2 (zc @hm (zc @hlt (zc @pRows_len (zc @e1 trivial)))))) (zc hE trivial) trivial ?_
    simp [Rets, aret, Blk.cells, ty, Tryz.results74, ares, toT1, toT, borrow, borrow0, capCell, toTree0, tint, hm]
  ·
    refine zR (zc @tdiv2 (zc @tmod2 (zc @hm (zc @hlt (zc @pRows_len (zc @e1 trivial)))))) (zc hE trivial) trivial ?_
    simp [Rets, aret, Blk.cells, ty, Tryz.results74, ares, toT1, toT, borrow, borrow0, capCell, toTree0, tint, hm]
theorem refHalf_ok (g : G) (hl : g.es.length ≤ 40) (hc : checkG g = 0) : ACall Tryz.prog 22 [tG g] (tint (2 * ((endsL g.es).length : Int))) := by
  have hs := sm_of (g := g) (by omega) hc
  have hZ := SizeR_ok g hs.s hs.es hs.m
  have hlen := ends_len hl hc
  generalize endsL g.es = L at *
  obtain ⟨n, es⟩ := g
  refine ACall.of_body Tryz.func22 rfl (by kernel_rfl) ?_
  simp only [entry, Tryz.ntmps22, tG]
  refine zU ?_
  refine zR trivial (zc hZ trivial) trivial ?_
  simp [Rets, aret, Blk.cells, ty, Tryz.results22, ares, toT1, toT, borrow, borrow0, capCell, toTree0, tint]
theorem refConn_ok (g : G) (hl : g.es.length ≤ 40) (hc : checkG g = 0) : ACall Tryz.prog 93 [tG g] (tbool (connB g)) := by
  have h12 := (checkG_zero.1 hc).1
  have hP := Parts_ok g g.n.toNat hc (by omega) (by omega)
  unfold connB
  generalize partsN g.es g.n.toNat g.n.toNat = k at *
  have e : decide (k = 1) = decide ((k : Int) = 1) := decide_eq_decide.2 (by omega)
  rw [e]
  obtain ⟨n, es⟩ := g
  refine ACall.of_body Tryz.func93 rfl (by kernel_rfl) ?_
  simp only [entry, Tryz.ntmps93, tG]
  refine zU ?_
  refine zR trivial (zc hP trivial) trivial ?_
  simp [Rets, aret, Blk.cells, ty, Tryz.results93, ares, toT1, toT, borrow, borrow0, capCell, toTree0, tbool]
theorem refJoined_ok (g : G) (hl : g.es.length ≤ 40) : ACall Tryz.prog 51 [tG g] (tint (joinedE g)) := by
  have hC := CheckR_ok g (by omega)
  unfold joinedE
  by_cases hc : checkG g = 0
  · have hK := refConn_ok g hl hc
    have hCn := hK
    clear hK
    rw [if_neg (by omega)]
    rw [hc] at hC
    generalize connB g = b at *
    obtain ⟨n, es⟩ := g
    refine ACall.of_body Tryz.func51 rfl (by kernel_rfl) ?_
    simp only [entry, Tryz.ntmps51, tG]
    refine zU ?_
    cases b with
    | true =>
      rw [if_pos rfl]
      refine zR trivial (zc hC (zc hCn trivial)) trivial ?_
      simp [Rets, aret, Blk.cells, ty, Tryz.results51, ares, toT1, toT, borrow, borrow0, capCell, toTree0, tint]
    | false =>
      rw [if_neg (by simp)]
      refine zR trivial (zc hC (zc hCn trivial)) trivial ?_
      simp [Rets, aret, Blk.cells, ty, Tryz.results51, ares, toT1, toT, borrow, borrow0, capCell, toTree0, tint]
  · rw [if_pos hc]
    generalize checkG g = E at *
    obtain ⟨n, es⟩ := g
    refine ACall.of_body Tryz.func51 rfl (by kernel_rfl) ?_
    simp only [entry, Tryz.ntmps51, tG]
    refine zU ?_
    refine zR (zc @hc trivial) (zc hC trivial) trivial ?_
    simp [Rets, aret, Blk.cells, ty, Tryz.results51, ares, toT1, toT, borrow, borrow0, capCell, toTree0, tint]
theorem around_ok (g : G) (hl : g.es.length ≤ 40) (hc : checkG g = 0) (v : Nat) (hv : (v : Int) < g.n) (l : List Int) (hll : l.length < 2 ^ 20) :
    ACall Tryz.prog 52 [tG g, tint v, tints l] (tint (lstErr l (ownL (endsL g.es) (v : Int) (2 * (endsL g.es).length)))) := by
  have h12 := (checkG_zero.1 hc).1
  have hD := DegreeR_ok g g.n.toNat hc (by omega) (by omega) v
  rw [own_degR hc (by omega) ⟨by omega, by omega⟩] at hD
  have hH := refHalf_ok g hl hc
  have hA := fun (h : Nat) (hh : h < 2 * (endsL g.es).length) => refAt_ok g hl hc h hh
  have hlen := ends_len hl hc
  have hs := ownL_sorted (endsL g.es) (v : Int) (2 * (endsL g.es).length)
  have hmem := fun x => ownL_mem (L := endsL g.es) (v := (v : Int)) (k := 2 * (endsL g.es).length) (x := x)
  have hol := ownL_len (endsL g.es) (v : Int) (2 * (endsL g.es).length)
  generalize ownL (endsL g.es) (v : Int) (2 * (endsL g.es).length) = own at *
  generalize endsL g.es = L at *
  clear hc
  obtain ⟨n, es⟩ := g
  simp only at hv h12 hl
  refine ACall.of_body Tryz.func52 rfl (by kernel_rfl) ?_
  simp only [entry, Tryz.ntmps52, tG, tint, tints]
  refine zU ?_
  by_cases hlo : l.length = own.length
  case neg =>
    have hI : ¬ ((l.length : Int) = own.length) := by omega
    have e : lstErr l own = 8 := by unfold lstErr; exact if_pos hlo
    rw [e]
    refine zR (zc @iRows_len (zc @hI trivial)) (zc hD trivial) trivial ?_
    simp [Rets, aret, Blk.cells, ty, Tryz.results52, ares, toT1, toT, borrow, borrow0, capCell, toTree0, tint]
  have hI : ((l.length : Int) = own.length) := by omega
  refine zR (zc @iRows_len (zc @hI trivial)) (zc hD trivial) trivial ?_
  refine AWp.loopS (α:=Nat) 67 (fun i=>[(1,.c (.int .i64 (v : Int))),(2,.c (.slice (iRows l) .none)),(3,.c (.ptr 0 0)),(7,.c (.int .i64 (i : Int)))]) (fun i=>[.box [.int .i64 n, .slice (eRows es) .none]]) (fun i=>i ≤ l.length ∧ lstGo own [] l = lstGo own (l.take i) (l.drop i)) (fun i=>l.length - i) (0) (hk:=Weak.headL 1 67 [1, 2, 3, 7] zW) (h0:=?_) (round:=fun i hI=>?_)
  · exact ⟨Nat.zero_le _, rfl⟩
  · obtain ⟨hi, hI2⟩ := hI
    by_cases hlt : i < l.length
    · have hltI : (i : Int) < own.length := by omega
      have e0 := List.getElem?_eq_getElem hlt
      have e1 := iRows_get e0
      have hd := List.drop_eq_getElem_cons hlt
      have htk : l.take (i + 1) = l.take i ++ [l[i]] := List.take_succ_eq_append_getElem hlt
      generalize l[i] = x at *
      have hm := hmem x
      have hHo := Holds_ok (l.take i) x (by rw [List.length_take]; omega)
      have herr : ¬ x ∈ own → lstErr l own = 2 := fun hn => by
        have hg : lstGo own [] l = 2 := by rw [hI2, hd]; simp only [lstGo]; rw [if_neg hn]
        unfold lstErr; rw [if_neg (by omega), hg]; rfl
      by_cases hx0 : x < 0
      · have e := herr (fun h => by have := hm.1 h; omega)
        rw [e]
        refine zR (zc @hltI (zc @hI (zc @iRows_len (zc @e1 (zc @hx0 trivial))))) trivial trivial ?_
        simp [Rets, aret, Blk.cells, ty, Tryz.results52, ares, toT1, toT, borrow, borrow0, capCell, toTree0, tint]
      by_cases hx1 : 2 * (L.length : Int) ≤ x
      · have e := herr (fun h => by have := hm.1 h; omega)
        rw [e]
        refine zR (zc @hltI (zc @hI (zc @iRows_len (zc @e1 (zc @hx0 (zc @hx1 trivial)))))) (zc hH trivial) trivial ?_
        simp [Rets, aret, Blk.cells, ty, Tryz.results52, ares, toT1, toT, borrow, borrow0, capCell, toTree0, tint]
      obtain ⟨y, rfl⟩ := Int.eq_ofNat_of_zero_le (show 0 ≤ x by omega)
      have hyl : y < 2 * L.length := by omega
      have hAy := hA y hyl
      rw [Int.toNat_natCast] at hm
      by_cases hav : atL L y = v
      case neg =>
        have e := herr (fun h => hav (hm.1 h).2.2)
        rw [e]
        generalize atL L y = a at *
        refine zR (zc @hltI (zc @hI (zc @iRows_len (zc @e1 (zc @hx0 (zc @hx1 (zc @hav trivial))))))) (zc hH (zc hAy trivial)) trivial ?_
        simp [Rets, aret, Blk.cells, ty, Tryz.results52, ares, toT1, toT, borrow, borrow0, capCell, toTree0, tint]
      have hin : (y : Int) ∈ own := hm.2 ⟨by omega, by omega, hav⟩
      rw [hav] at hAy
      by_cases hc : (y : Int) ∈ l.take i
      · have hg : lstGo own [] l = 7 := by rw [hI2, hd]; simp only [lstGo]; rw [if_pos hin, if_pos hc]
        have e : lstErr l own = 7 := by unfold lstErr; rw [if_neg (by omega), hg]; rfl
        rw [e]
        rw [decide_eq_true hc] at hHo
        refine zR (zc @hltI (zc @hI (zc @iRows_len (zc @e1 (zc @hx0 (zc @hx1 (zc @iRows_take (zc @Int.ofNat_lt (zc @hlt trivial))))))))) (zc hH (zc hAy (zc hHo trivial))) @iRows_k' ?_
        simp [Rets, aret, Blk.cells, ty, Tryz.results52, ares, toT1, toT, borrow, borrow0, capCell, toTree0, tint]
      · rw [decide_eq_false hc] at hHo
        refine zR (zc @hltI (zc @hI (zc @iRows_len (zc @e1 (zc @hx0 (zc @hx1 (zc @iRows_take (zc @Int.ofNat_lt (zc @hlt trivial))))))))) (zc hH (zc hAy (zc hHo trivial))) @iRows_k' ?_
        refine ⟨i + 1,Weak.headN 1 67 [1, 2, 3, 7] zW,?_,?_⟩
        · refine ⟨hlt, ?_⟩
          rw [hI2, hd, lstGo_step hin hc, ← htk]
        · omega
    · have ei : i = l.length := by omega
      have hg : lstGo own [] l = 0 := by rw [hI2, ei, List.drop_length]; rfl
      have hnl : ¬ ((i : Int) < own.length) := by omega
      have hh := hd_iff hg hlo hs
      have herr : lstErr l own = if l ≠ [] ∧ l.getD 0 0 ≠ own.getD 0 0 then 9 else 0 := by unfold lstErr; rw [if_neg (by omega), if_neg (by omega)]
      refine zR (zc @hnl (zc @iRows_len (zc @hI trivial))) trivial trivial ?_
      refine AWp.loopS (α:=Nat) 67 (fun j=>[(2,.c (.slice (iRows l) .none)),(8,.c (.int .i64 ((j : Int) + 1)))]) (fun j=>[]) (fun j=>∀ k x, k ≤ j → l[k]? = some x → ¬ x < l.getD 0 0) (fun j=>l.length - j) (0) (hk:=Weak.headL 0 67 [2, 8] zW) (h0:=?_) (round:=fun j hI=>?_)
      · intro k x hk hx
        have : k = 0 := by omega
        subst this
        rw [List.getD_eq_getElem?_getD, hx]; simp
      · have hinv := hI
        clear hI
        by_cases hltj : j + 1 < l.length
        · have hltJ : (j : Int) + 1 < own.length := by omega
          have f0 := List.getElem?_eq_getElem hltj
          have f1 := iRows_get f0
          have g0 := List.getElem?_eq_getElem (show 0 < l.length by omega)
          have g1 := iRows_get g0
          have hgd : l.getD 0 0 = l[0] := by rw [List.getD_eq_getElem?_getD, g0]; rfl
          have ht : ((j : Int) + 1).toNat = j + 1 := by omega
          have hml := List.getElem_mem hltj
          have hoI : (0 : Int) < own.length := by omega
          generalize l[j + 1] = x at *
          generalize l[0] = z at *
          by_cases hxz : x < z
          · have e : lstErr l own = 9 := by rw [herr, if_pos]; exact hh.2 ⟨x, hml, by rw [hgd]; exact hxz⟩
            rw [e]
            refine zR (zc @hltJ (zc @hI (zc @iRows_len (zc @f1 (zc @g1 (zc @ht (zc @Int.toNat_zero (zc @hxz (zc @hoI trivial))))))))) trivial trivial ?_
            simp [Rets, aret, Blk.cells, ty, Tryz.results52, ares, toT1, toT, borrow, borrow0, capCell, toTree0, tint]
          · have hxz2 : z ≤ x := by omega
            refine zR (zc @hltJ (zc @hI (zc @iRows_len (zc @f1 (zc @g1 (zc @ht (zc @Int.toNat_zero (zc @hxz (zc @hoI trivial))))))))) trivial trivial ?_
            refine ⟨j + 1,Weak.headN 0 67 [2, 8] zW,?_,?_⟩
            · intro k y hk hy
              by_cases e : k = j + 1
              · subst e
                rw [f0] at hy
                cases hy
                rw [hgd]; exact hxz
              · exact hinv k y (by omega) hy
            · omega
        · have hnlj : ¬ ((j : Int) + 1 < own.length) := by omega
          have e : lstErr l own = 0 := by
            rw [herr, if_neg]
            intro h
            obtain ⟨x, hx, hlt⟩ := hh.1 h
            obtain ⟨k, hk, rfl⟩ := List.mem_iff_getElem.1 hx
            exact hinv k _ (by omega) (List.getElem?_eq_getElem hk) hlt
          rw [e]
          refine zR (zc @hnlj (zc @hI (zc @iRows_len trivial))) trivial trivial ?_
          simp [Rets, aret, Blk.cells, ty, Tryz.results52, ares, toT1, toT, borrow, borrow0, capCell, toTree0, tint]
theorem refCheck_ok (r : R) (hs : RSm r) : ACall Tryz.prog 15 [tR r] (tint (ribE r)) := by
  have hJ := refJoined_ok r.g hs.es
  by_cases hj : joinedE r.g = 0
  case neg =>
    have e : ribE r = joinedE r.g := by unfold ribE; rw [if_pos hj]
    rw [e]
    clear e
    generalize joinedE r.g = E at *
    obtain ⟨n, es, ar⟩ := r
    refine ACall.of_body Tryz.func15 rfl (by kernel_rfl) ?_
    simp only [entry, Tryz.ntmps15, tR]
    refine zU ?_
    refine zR (zc @hj trivial) (zc hJ trivial) trivial ?_
    simp [Rets, aret, Blk.cells, ty, Tryz.results15, ares, toT1, toT, borrow, borrow0, capCell, toTree0, tint]
  have hc : checkG r.g = 0 := by
    unfold joinedE at hj
    by_cases h : checkG r.g = 0
    · exact h
    · rw [if_pos h] at hj; exact absurd hj h
  have h12 : 1 ≤ r.n ∧ r.n ≤ 12 := (checkG_zero.1 hc).1
  have eR : ribE r = if (r.ar.length : Int) ≠ r.n then 8 else chkGo (endsL r.es) (2 * (endsL r.es).length) 0 r.ar := by unfold ribE; rw [if_neg (by omega)]
  rw [eR]
  rw [hj] at hJ
  have hAr := fun (v : Nat) (hv : (v : Int) < r.n) (l : List Int) (hl : l.length < 2 ^ 20) => around_ok r.g hs.es hc v hv l hl
  have hLl := hs.l
  have hA := hs.ar
  clear hs hj hc eR
  obtain ⟨n, es, ar⟩ := r
  simp only [R.g] at hJ hAr h12 hLl hA ⊢
  generalize hL : endsL es = L at *
  obtain ⟨k, rfl⟩ := Int.eq_ofNat_of_zero_le (show 0 ≤ n by omega)
  refine ACall.of_body Tryz.func15 rfl (by kernel_rfl) ?_
  simp only [entry, Tryz.ntmps15, tR]
  refine zU ?_
  by_cases hlen2 : ar.length = k
  case neg =>
    have hI : ¬ ((ar.length : Int) = k) := by omega
    rw [if_pos hI]
    refine zR (zc @llRows_len (zc @hI trivial)) (zc hJ trivial) trivial ?_
    simp [Rets, aret, Blk.cells, ty, Tryz.results15, ares, toT1, toT, borrow, borrow0, capCell, toTree0, tint]
  have hI : (ar.length : Int) = k := by omega
  rw [if_neg (show ¬ ((ar.length : Int) ≠ (k : Int)) by omega)]
  refine zR (zc @llRows_len (zc @hI trivial)) (zc hJ trivial) trivial ?_
  refine AWp.loopS (α:=Nat) 38 (fun i=>[(1,.c (.ptr 0 0)),(4,.c (.int .i64 (i : Int)))]) (fun i=>[.box [.int .i64 (k : Int), .slice (eRows es) .none, .slice (llRows ar) .none]]) (fun i=>i ≤ k ∧ chkGo L (2 * L.length) 0 ar = chkGo L (2 * L.length) i (ar.drop i)) (fun i=>k - i) (0) (hk:=Weak.headL 1 38 [1, 4] zW) (h0:=?_) (round:=fun i hI=>?_)
  · exact ⟨Nat.zero_le _, rfl⟩
  · obtain ⟨hi, hI2⟩ := hI
    by_cases hlt : i < k
    · have hltI : (i : Int) < k := by omega
      have hil : i < ar.length := by omega
      have e0 := List.getElem?_eq_getElem hil
      have e1 := llRows_get e0
      have hd := List.drop_eq_getElem_cons hil
      have hl := hLl _ (List.getElem_mem hil)
      generalize ar[i] = l at *
      have hlist := hAr i hltI l hl
      have hg : chkGo L (2 * L.length) i (l :: ar.drop (i + 1)) = if lstErr l (ownL L (i : Int) (2 * L.length)) ≠ 0 then lstErr l (ownL L (i : Int) (2 * L.length)) else chkGo L (2 * L.length) (i + 1) (ar.drop (i + 1)) := rfl
      rw [← hd, ← hI2] at hg
      generalize lstErr l (ownL L (i : Int) (2 * L.length)) = E at *
      by_cases hE : E = 0
      · rw [if_neg (by omega)] at hg
        subst hE
        refine zR (zc @hltI (zc @llRows_len (zc @hI (zc @e1 trivial)))) (zc hlist trivial) trivial ?_
        refine ⟨i + 1,Weak.headN 1 38 [1, 4] zW,?_,?_⟩
        · exact ⟨hlt, hg⟩
        · omega
      · rw [if_pos hE] at hg
        rw [hg]
        refine zR (zc @hltI (zc @llRows_len (zc @hI (zc @e1 (zc @hE trivial))))) (zc hlist trivial) trivial ?_
        simp [Rets, aret, Blk.cells, ty, Tryz.results15, ares, toT1, toT, borrow, borrow0, capCell, toTree0, tint]
    · have ei : i = k := by omega
      subst ei
      have hz : chkGo L (2 * L.length) 0 ar = 0 := by rw [hI2, List.drop_eq_nil_of_le (by omega)]; rfl
      have hnl : ¬ ((i : Int) < i) := by omega
      rw [hz]
      refine zR (zc @hnl trivial) trivial trivial ?_
      simp [Rets, aret, Blk.cells, ty, Tryz.results15, ares, toT1, toT, borrow, borrow0, capCell, toTree0, tint]
end Go.Proofs.YtfkegnhpihoncaaGreat
set_option linter.all false
namespace Go.Proofs.YtfkegnhpihoncaaGreat
open Go.Sp
set_option linter.unusedSimpArgs false
set_option linter.unusedVariables false
def leastGo (l : List Int) : Nat → Nat
  | 0 => 0
  | k + 1 => if l.getD (k + 1) 0 < l.getD (leastGo l k) 0 then k + 1 else leastGo l k
theorem leastGo_spec (l : List Int) : ∀ k : Nat, leastGo l k ≤ k ∧ (∀ i, i ≤ k → l.getD (leastGo l k) 0 ≤ l.getD i 0) ∧ ∀ i, i < leastGo l k → l.getD (leastGo l k) 0 < l.getD i 0
  | 0 => ⟨Nat.le_refl _, fun i hi => by rw [show i = 0 by omega]; exact Int.le_refl _, fun i hi => absurd hi (Nat.not_lt_zero _)⟩
  | k + 1 => by
    obtain ⟨h1, h2, h3⟩ := leastGo_spec l k
    simp only [leastGo]
    split
    · rename_i h
      refine ⟨Nat.le_refl _, fun i hi => ?_, fun i hi => ?_⟩
      · rcases Nat.lt_or_eq_of_le hi with h4 | h4
        · have := h2 i (by omega); omega
        · subst h4; exact Int.le_refl _
      · have := h2 i (by omega); omega
    · rename_i h
      refine ⟨by omega, fun i hi => ?_, h3⟩
      rcases Nat.lt_or_eq_of_le hi with h4 | h4
      · exact h2 i (by omega)
      · subst h4; omega
def leastN (l : List Int) : Nat := leastGo l (l.length - 1)
def turnL (l : List Int) : List Int := l.drop (leastN l) ++ l.take (leastN l)
theorem leastN_lt {l : List Int} (h : l ≠ []) : leastN l < l.length := by
  have := (leastGo_spec l (l.length - 1)).1
  have := List.length_pos_iff.2 h
  unfold leastN; omega
theorem turnL_len (l : List Int) : (turnL l).length = l.length := by
  unfold turnL
  rw [List.length_append, List.length_drop, List.length_take]
  by_cases h : l = []
  · subst h; rfl
  · have := leastN_lt h; omega
theorem turnL_nil : turnL [] = [] := rfl
def mirL (ar : List (List Int)) : List (List Int) := ar.map fun l => turnL l.reverse
def facesR (r : R) : List (List Nat) := if (endsL r.es).length = 0 then [[]] else facesN (fR (endsL r.es) r.ar) (2 * (endsL r.es).length) (2 * (endsL r.es).length)
def genusR (r : R) : Int := Int.tdiv (2 - r.n + (endsL r.es).length - (facesR r).length) 2
end Go.Proofs.YtfkegnhpihoncaaGreat
set_option linter.all false
namespace Go.Proofs.YtfkegnhpihoncaaGreat
open Go.Sp
set_option linter.unusedSimpArgs false
set_option linter.unusedVariables false
set_option maxHeartbeats 4000000
set_option maxRecDepth 100000
theorem Min_ok (l : List Int) (hne : l ≠ []) (hl : l.length < 2 ^ 40) : ACall Tryz.prog 105 [tints l] (tint (l.getD (leastN l) 0)) := by
  have hp : 0 < l.length := List.length_pos_iff.2 hne
  have e0 := List.getElem?_eq_getElem hp
  have r0 := iRows_get e0
  have d0 : l.getD 0 0 = l[0] := by rw [List.getD_eq_getElem?_getD, e0]; rfl
  generalize l[0] = x0 at *
  refine ACall.of_body Tryz.func105 rfl (by kernel_rfl) ?_
  simp only [entry, Tryz.ntmps105, tints]
  refine zU ?_
  refine zR (zc @iRows_len (zc @r0 (zc @Int.toNat_zero trivial))) trivial trivial ?_
  have hx0 : x0 = l.getD (leastGo l 0) 0 := d0.symm
  rw [hx0]
  refine AWp.loopS (α:=Nat) 25 (fun i=>[(0,.c (.slice (iRows l) .none)),(3,.c (.int .i64 (l.getD (leastGo l i) 0))),(4,.c (.int .i64 ((i : Int) + 1)))]) (fun i=>[]) (fun i=>i < l.length) (fun i=>l.length - i) (0) (hk:=Weak.headL 0 25 [0, 3, 4] zW) (h0:=?_) (round:=fun i hI=>?_)
  · exact hp
  · by_cases hlt : i + 1 < l.length
    · have hltI : (i : Int) + 1 < l.length := by omega
      have e1 := List.getElem?_eq_getElem hlt
      have r1 := iRows_get e1
      have d1 : l.getD (i + 1) 0 = l[i + 1] := by rw [List.getD_eq_getElem?_getD, e1]; rfl
      have hnx : l.getD (leastGo l (i + 1)) 0 = min (l.getD (leastGo l i) 0) (l.getD (i + 1) 0) := by
        simp only [leastGo]; split <;> omega
      rw [d1] at hnx
      have ht : ((i : Int) + 1).toNat = i + 1 := by omega
      generalize l[i + 1] = y at *
      generalize l.getD (leastGo l i) 0 = m at *
      refine zR (zc @hltI (zc @iRows_len (zc @r1 (zc @ht trivial)))) trivial trivial ?_
      refine ⟨i + 1,Weak.headF 0 25 [0, 3, 4] (zc @hnx trivial) zW,?_,?_⟩
      · omega
      · omega
    · have ei : leastN l = leastGo l i := by unfold leastN; congr 1; omega
      have hnl : ¬ ((i : Int) + 1 < l.length) := by omega
      rw [ei]
      refine zR (zc @hnl (zc @iRows_len trivial)) trivial trivial ?_
      simp [Rets, aret, Blk.cells, ty, Tryz.results105, ares, toT1, toT, borrow, borrow0, capCell, toTree0, tint]
theorem Grow_ok (H : List Blk) (n : Nat) (h0 : 0 < n) (hn : n < 2 ^ 30) : ACallH Tryz.prog 142 H [.c .nils, .c (.int .i64 n)] (H ++ [.box (List.replicate n (.int .i64 0))]) (.c (.ref H.length 1 0 0 n)) := by
  have h0I : (0 : Int) < n := by omega
  have h1I : ¬ ((n : Int) < 0) := by omega
  refine ACallH.of_body Tryz.func142 rfl (by kernel_rfl) ?_
  simp only [entry, Tryz.ntmps142, List.length_cons, List.length_nil, Nat.reduceAdd, Nat.reduceSub, List.replicate_succ, List.replicate_zero, List.cons_append, List.nil_append]
  repeat' (first|((with_reducible refine AWp.seq (AWp.of_reg (id:=3) (AReg.pre 2 (fun K hK=>?_))));simp only [List.take_succ_cons,List.take_zero])|((with_reducible refine AWp.of_reg (id:=3) (AReg.pre 2 (fun K hK=>?_)));simp only [List.take_succ_cons,List.take_zero])|((first|(refine zT ?_;intro K' hK')|(refine zG ?_ ?_<;>(try refine zH ?_)<;>intro hguard<;>(try exact zX)<;>try intro K' hK'))<;>((try simp +contextual only [go_sem, h1I, h0I]);(repeat' first|(with_reducible refine hK' _ _ ?_;clear hK' K')|exact zY|with_reducible refine And.intro ?_ ?_|(with_reducible intro hpath;try exact zP)|(refine hK' _ _ ?_;clear hK' K')|fail);try refine zS ?_))|(refine zE ?_;refine hK _ _ ?_;clear hK K)|(refine zN ?_;try refine zS ?_)|refine zA ?_|(refine zB ?_;intro K hK)|(refine zC ?_ ?_<;>(try refine zH ?_)<;>intro hcond<;>try exact zX)|fail)
  simp only [List.drop_succ_cons, List.drop_zero]
  refine AReg.step (rv := .c (.int .i64 0)) (H' := H) rfl rfl (step_cap_nil (e := 3) _ _ rfl (by simp only [ty]) rfl) ?_
  refine AReg.rest (fun K hK => ?_)
  have e0 : (n : Int) - (0 - ((0 : Nat) : Int)) = n := by omega
  repeat' (first|((with_reducible refine AWp.seq (AWp.of_reg (id:=5) (AReg.pre 2 (fun K hK=>?_))));simp only [List.take_succ_cons,List.take_zero])|((with_reducible refine AWp.of_reg (id:=5) (AReg.pre 2 (fun K hK=>?_)));simp only [List.take_succ_cons,List.take_zero])|((first|(refine zT ?_;intro K' hK')|(refine zG ?_ ?_<;>(try refine zH ?_)<;>intro hguard<;>(try exact zX)<;>try intro K' hK'))<;>((try simp +contextual only [go_sem, h1I, h0I, e0]);(repeat' first|(with_reducible refine hK' _ _ ?_;clear hK' K')|exact zY|with_reducible refine And.intro ?_ ?_|(with_reducible intro hpath;try exact zP)|(refine hK' _ _ ?_;clear hK' K')|fail);try refine zS ?_))|(refine zE ?_;refine hK _ _ ?_;clear hK K)|(refine zN ?_;try refine zS ?_)|refine zA ?_|(refine zB ?_;intro K hK)|(refine zC ?_ ?_<;>(try refine zH ?_)<;>intro hcond<;>try exact zX)|fail)
  simp only [List.drop_succ_cons, List.drop_zero]
  refine AReg.step (rv := .c (.int .i64 0)) (H' := H) rfl rfl (step_cap_nil (e := 3) _ _ rfl (by simp only [ty]) rfl) ?_
  refine AReg.step (rv := .c .nils) (H' := H) rfl rfl (step_part_nil (e := 3) _ _ _ rfl (by simp only [ty]) (by simp only [ty]) rfl rfl) ?_
  refine AReg.pre 1 (fun K hK => ?_)
  simp only [List.take_succ_cons, List.take_zero]
  repeat' (first|((first|(refine zT ?_;intro K' hK')|(refine zG ?_ ?_<;>(try refine zH ?_)<;>intro hguard<;>(try exact zX)<;>try intro K' hK'))<;>((try simp +contextual only [go_sem]);(repeat' first|(with_reducible refine hK' _ _ ?_;clear hK' K')|exact zY|with_reducible refine And.intro ?_ ?_|(with_reducible intro hpath;try exact zP)|(refine hK' _ _ ?_;clear hK' K')|fail);try refine zS ?_))|(refine zE ?_;refine hK _ _ ?_;clear hK K)|(refine zN ?_;try refine zS ?_)|fail)
  simp only [List.drop_succ_cons, List.drop_zero]
  refine AReg.step (rv := .c (.ref H.length 1 0 n n)) (H' := H ++ [.box (List.replicate n (.int .i64 0))]) rfl rfl (step_append_made (e := 3) (by' := 8) (k0 := .i64) _ _ _ _ rfl (by simp only [ty]) (by simp only [ty]) (by simp only [ty]) (by simp only [ty]) (by simp only [ty]) rfl rfl h0 (by omega) (by omega)) ?_
  refine AReg.pre 2 (fun K hK => ?_)
  simp only [List.take_succ_cons, List.take_zero]
  repeat' (first|((first|(refine zT ?_;intro K' hK')|(refine zG ?_ ?_<;>(try refine zH ?_)<;>intro hguard<;>(try exact zX)<;>try intro K' hK'))<;>((try simp +contextual only [go_sem]);(repeat' first|(with_reducible refine hK' _ _ ?_;clear hK' K')|exact zY|with_reducible refine And.intro ?_ ?_|(with_reducible intro hpath;try exact zP)|(refine hK' _ _ ?_;clear hK' K')|fail);try refine zS ?_))|(refine zE ?_;refine hK _ _ ?_;clear hK K)|(refine zN ?_;try refine zS ?_)|fail)
  simp only [List.drop_succ_cons, List.drop_zero]
  refine AReg.step (rv := .c (.ref H.length 1 0 0 n)) (H' := H ++ [.box (List.replicate n (.int .i64 0))]) rfl rfl (step_slice_ref (e := 3) (l := 0) (h := 0) _ _ _ _ rfl (by simp only [ty]) (by simp only [ty]) rfl rfl rfl (Nat.le_refl _) (Nat.zero_le _) (Nat.le_refl _) (.inl rfl)) ?_
  refine AReg.rest (fun K hK => ?_)
  repeat' (first|((first|(refine zT ?_;intro K' hK')|(refine zG ?_ ?_<;>(try refine zH ?_)<;>intro hguard<;>(try exact zX)<;>try intro K' hK'))<;>((try simp +contextual only [go_sem]);(repeat' first|(with_reducible refine hK' _ _ ?_;clear hK' K')|exact zY|with_reducible refine And.intro ?_ ?_|(with_reducible intro hpath;try exact zP)|(refine hK' _ _ ?_;clear hK' K')|fail);try refine zS ?_))|(refine zE ?_;refine hK _ _ ?_;clear hK K)|(refine zN ?_;try refine zS ?_)|refine zA ?_|(refine zB ?_;intro K hK)|(refine zC ?_ ?_<;>(try refine zH ?_)<;>intro hcond<;>try exact zX)|fail)
  simp [RetsH, aretH, ares, noTup, Tryz.results142]
end Go.Proofs.YtfkegnhpihoncaaGreat
