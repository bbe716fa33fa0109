/- A part of the proof: contracts of functions of the program, and plain lemmas. -/
import Derived.Test.YtfkegnhpihoncaaGreatPart20
import Derived.Test.YtfkegnhpihoncaaGreatPart12
import Derived.Test.YtfkegnhpihoncaaGreatLayerC
import Derived.Test.YtfkegnhpihoncaaGreatPart16
set_option linter.all false
namespace Go.Proofs.YtfkegnhpihoncaaGreat
open Go.Sp
set_option linter.unusedSimpArgs false
set_option linter.unusedVariables false
set_option maxHeartbeats 4000000
set_option maxRecDepth 100000
theorem refEnds_ok (g : G) (hl : g.es.length ≤ 40) (hc : checkG g = 0) : ACall Tryz.prog 55 [tG g] (tpairs (endsL g.es)) := by
  have hs := sm_of (g := g) (by omega) hc
  exact EndsR_ok g hs.s hs.es hs.m
theorem refAt_ok (g : G) (hl : g.es.length ≤ 40) (hc : checkG g = 0) (h : Nat) (hh : h < 2 * (endsL g.es).length) : ACall Tryz.prog 74 [tG g, tint h] (tint (atL (endsL g.es) h)) := by
  have hE := refEnds_ok g hl hc
  have hlen := ends_len hl hc
  have e0 : (endsL g.es)[h / 2]? = some (endsL g.es)[h / 2] := List.getElem?_eq_getElem (by omega)
  have e1 := pRows_get e0
  have ea : atL (endsL g.es) h = if h % 2 = 0 then (endsL g.es)[h / 2].1 else (endsL g.es)[h / 2].2 := by unfold atL; rw [List.getD_eq_getElem?_getD, e0]; rfl
  have hlt : ((h / 2 : Nat) : Int) < (endsL g.es).length := by omega
  rw [ea]
  clear ea
  generalize (endsL g.es)[h / 2] = p at *
  obtain ⟨a, b⟩ := p
  generalize endsL g.es = L at *
  obtain ⟨n, es⟩ := g
  refine ACall.of_body Tryz.func74 rfl (by kernel_rfl) ?_
  simp only [entry, Tryz.ntmps74, tG, tint]
  refine zU ?_
  have hm : h % 2 = 0 ∨ h % 2 = 1 := by omega
  rcases hm with hm | hm
  ·
    refine zR (zc @tdiv2 (zc @tmod2 (zc @hm (zc @hlt (zc @pRows_len (zc @e1 trivial)))))) (zc hE trivial) trivial ?_
    simp [Rets, aret, Blk.cells, ty, Tryz.results74, ares, toT1, toT, borrow, borrow0, capCell, toTree0, tint, hm]
  ·
    refine zR (zc @tdiv2 (zc @tmod2 (zc @hm (zc @hlt (zc @pRows_len (zc @e1 trivial)))))) (zc hE trivial) trivial ?_
    simp [Rets, aret, Blk.cells, ty, Tryz.results74, ares, toT1, toT, borrow, borrow0, capCell, toTree0, tint, hm]
theorem refHalf_ok (g : G) (hl : g.es.length ≤ 40) (hc : checkG g = 0) : ACall Tryz.prog 22 [tG g] (tint (2 * ((endsL g.es).length : Int))) := by
  have hs := sm_of (g := g) (by omega) hc
  have hZ := SizeR_ok g hs.s hs.es hs.m
  have hlen := ends_len hl hc
  generalize endsL g.es = L at *
  obtain ⟨n, es⟩ := g
  refine ACall.of_body Tryz.func22 rfl (by kernel_rfl) ?_
  simp only [entry, Tryz.ntmps22, tG]
  refine zU ?_
  refine zR trivial (zc hZ trivial) trivial ?_
  simp [Rets, aret, Blk.cells, ty, Tryz.results22, ares, toT1, toT, borrow, borrow0, capCell, toTree0, tint]
theorem refConn_ok (g : G) (hl : g.es.length ≤ 40) (hc : checkG g = 0) : ACall Tryz.prog 93 [tG g] (tbool (connB g)) := by
  have h12 := (checkG_zero.1 hc).1
  have hP := Parts_ok g g.n.toNat hc (by omega) (by omega)
  unfold connB
  generalize partsN g.es g.n.toNat g.n.toNat = k at *
  have e : decide (k = 1) = decide ((k : Int) = 1) := decide_eq_decide.2 (by omega)
  rw [e]
  obtain ⟨n, es⟩ := g
  refine ACall.of_body Tryz.func93 rfl (by kernel_rfl) ?_
  simp only [entry, Tryz.ntmps93, tG]
  refine zU ?_
  refine zR trivial (zc hP trivial) trivial ?_
  simp [Rets, aret, Blk.cells, ty, Tryz.results93, ares, toT1, toT, borrow, borrow0, capCell, toTree0, tbool]
theorem refJoined_ok (g : G) (hl : g.es.length ≤ 40) : ACall Tryz.prog 51 [tG g] (tint (joinedE g)) := by
  have hC := CheckR_ok g (by omega)
  unfold joinedE
  by_cases hc : checkG g = 0
  · have hK := refConn_ok g hl hc
    have hCn := hK
    clear hK
    rw [if_neg (by omega)]
    rw [hc] at hC
    generalize connB g = b at *
    obtain ⟨n, es⟩ := g
    refine ACall.of_body Tryz.func51 rfl (by kernel_rfl) ?_
    simp only [entry, Tryz.ntmps51, tG]
    refine zU ?_
    cases b with
    | true =>
      rw [if_pos rfl]
      refine zR trivial (zc hC (zc hCn trivial)) trivial ?_
      simp [Rets, aret, Blk.cells, ty, Tryz.results51, ares, toT1, toT, borrow, borrow0, capCell, toTree0, tint]
    | false =>
      rw [if_neg (by simp)]
      refine zR trivial (zc hC (zc hCn trivial)) trivial ?_
      simp [Rets, aret, Blk.cells, ty, Tryz.results51, ares, toT1, toT, borrow, borrow0, capCell, toTree0, tint]
  · rw [if_pos hc]
    generalize checkG g = E at *
    obtain ⟨n, es⟩ := g
    refine ACall.of_body Tryz.func51 rfl (by kernel_rfl) ?_
    simp only [entry, Tryz.ntmps51, tG]
    refine zU ?_
    refine zR (zc @hc trivial) (zc hC trivial) trivial ?_
    simp [Rets, aret, Blk.cells, ty, Tryz.results51, ares, toT1, toT, borrow, borrow0, capCell, toTree0, tint]
theorem around_ok (g : G) (hl : g.es.length ≤ 40) (hc : checkG g = 0) (v : Nat) (hv : (v : Int) < g.n) (l : List Int) (hll : l.length < 2 ^ 20) :
    ACall Tryz.prog 52 [tG g, tint v, tints l] (tint (lstErr l (ownL (endsL g.es) (v : Int) (2 * (endsL g.es).length)))) := by
  have h12 := (checkG_zero.1 hc).1
  have hD := DegreeR_ok g g.n.toNat hc (by omega) (by omega) v
  rw [own_degR hc (by omega) ⟨by omega, by omega⟩] at hD
  have hH := refHalf_ok g hl hc
  have hA := fun (h : Nat) (hh : h < 2 * (endsL g.es).length) => refAt_ok g hl hc h hh
  have hlen := ends_len hl hc
  have hs := ownL_sorted (endsL g.es) (v : Int) (2 * (endsL g.es).length)
  have hmem := fun x => ownL_mem (L := endsL g.es) (v := (v : Int)) (k := 2 * (endsL g.es).length) (x := x)
  have hol := ownL_len (endsL g.es) (v : Int) (2 * (endsL g.es).length)
  generalize ownL (endsL g.es) (v : Int) (2 * (endsL g.es).length) = own at *
  generalize endsL g.es = L at *
  clear hc
  obtain ⟨n, es⟩ := g
  simp only at hv h12 hl
  refine ACall.of_body Tryz.func52 rfl (by kernel_rfl) ?_
  simp only [entry, Tryz.ntmps52, tG, tint, tints]
  refine zU ?_
  by_cases hlo : l.length = own.length
  case neg =>
    have hI : ¬ ((l.length : Int) = own.length) := by omega
    have e : lstErr l own = 8 := by unfold lstErr; exact if_pos hlo
    rw [e]
    refine zR (zc @iRows_len (zc @hI trivial)) (zc hD trivial) trivial ?_
    simp [Rets, aret, Blk.cells, ty, Tryz.results52, ares, toT1, toT, borrow, borrow0, capCell, toTree0, tint]
  have hI : ((l.length : Int) = own.length) := by omega
  refine zR (zc @iRows_len (zc @hI trivial)) (zc hD trivial) trivial ?_
  refine AWp.loopS (α:=Nat) 67 (fun i=>[(1,.c (.int .i64 (v : Int))),(2,.c (.slice (iRows l) .none)),(3,.c (.ptr 0 0)),(7,.c (.int .i64 (i : Int)))]) (fun i=>[.box [.int .i64 n, .slice (eRows es) .none]]) (fun i=>i ≤ l.length ∧ lstGo own [] l = lstGo own (l.take i) (l.drop i)) (fun i=>l.length - i) (0) (hk:=Weak.headL 1 67 [1, 2, 3, 7] zW) (h0:=?_) (round:=fun i hI=>?_)
  · exact ⟨Nat.zero_le _, rfl⟩
  · obtain ⟨hi, hI2⟩ := hI
    by_cases hlt : i < l.length
    · have hltI : (i : Int) < own.length := by omega
      have e0 := List.getElem?_eq_getElem hlt
      have e1 := iRows_get e0
      have hd := List.drop_eq_getElem_cons hlt
      have htk : l.take (i + 1) = l.take i ++ [l[i]] := List.take_succ_eq_append_getElem hlt
      generalize l[i] = x at *
      have hm := hmem x
      have hHo := Holds_ok (l.take i) x (by rw [List.length_take]; omega)
      have herr : ¬ x ∈ own → lstErr l own = 2 := fun hn => by
        have hg : lstGo own [] l = 2 := by rw [hI2, hd]; simp only [lstGo]; rw [if_neg hn]
        unfold lstErr; rw [if_neg (by omega), hg]; rfl
      by_cases hx0 : x < 0
      · have e := herr (fun h => by have := hm.1 h; omega)
        rw [e]
        refine zR (zc @hltI (zc @hI (zc @iRows_len (zc @e1 (zc @hx0 trivial))))) trivial trivial ?_
        simp [Rets, aret, Blk.cells, ty, Tryz.results52, ares, toT1, toT, borrow, borrow0, capCell, toTree0, tint]
      by_cases hx1 : 2 * (L.length : Int) ≤ x
      · have e := herr (fun h => by have := hm.1 h; omega)
        rw [e]
        refine zR (zc @hltI (zc @hI (zc @iRows_len (zc @e1 (zc @hx0 (zc @hx1 trivial)))))) (zc hH trivial) trivial ?_
        simp [Rets, aret, Blk.cells, ty, Tryz.results52, ares, toT1, toT, borrow, borrow0, capCell, toTree0, tint]
      obtain ⟨y, rfl⟩ := Int.eq_ofNat_of_zero_le (show 0 ≤ x by omega)
      have hyl : y < 2 * L.length := by omega
      have hAy := hA y hyl
      rw [Int.toNat_natCast] at hm
      by_cases hav : atL L y = v
      case neg =>
        have e := herr (fun h => hav (hm.1 h).2.2)
        rw [e]
        generalize atL L y = a at *
        refine zR (zc @hltI (zc @hI (zc @iRows_len (zc @e1 (zc @hx0 (zc @hx1 (zc @hav trivial))))))) (zc hH (zc hAy trivial)) trivial ?_
        simp [Rets, aret, Blk.cells, ty, Tryz.results52, ares, toT1, toT, borrow, borrow0, capCell, toTree0, tint]
      have hin : (y : Int) ∈ own := hm.2 ⟨by omega, by omega, hav⟩
      rw [hav] at hAy
      by_cases hc : (y : Int) ∈ l.take i
      · have hg : lstGo own [] l = 7 := by rw [hI2, hd]; simp only [lstGo]; rw [if_pos hin, if_pos hc]
        have e : lstErr l own = 7 := by unfold lstErr; rw [if_neg (by omega), hg]; rfl
        rw [e]
        rw [decide_eq_true hc] at hHo
        refine zR (zc @hltI (zc @hI (zc @iRows_len (zc @e1 (zc @hx0 (zc @hx1 (zc @iRows_take (zc @Int.ofNat_lt (zc @hlt trivial))))))))) (zc hH (zc hAy (zc hHo trivial))) @iRows_k' ?_
        simp [Rets, aret, Blk.cells, ty, Tryz.results52, ares, toT1, toT, borrow, borrow0, capCell, toTree0, tint]
      · rw [decide_eq_false hc] at hHo
        refine zR (zc @hltI (zc @hI (zc @iRows_len (zc @e1 (zc @hx0 (zc @hx1 (zc @iRows_take (zc @Int.ofNat_lt (zc @hlt trivial))))))))) (zc hH (zc hAy (zc hHo trivial))) @iRows_k' ?_
        refine ⟨i + 1,Weak.headN 1 67 [1, 2, 3, 7] zW,?_,?_⟩
        · refine ⟨hlt, ?_⟩
          rw [hI2, hd, lstGo_step hin hc, ← htk]
        · omega
    · have ei : i = l.length := by omega
      have hg : lstGo own [] l = 0 := by rw [hI2, ei, List.drop_length]; rfl
      have hnl : ¬ ((i : Int) < own.length) := by omega
      have hh := hd_iff hg hlo hs
      have herr : lstErr l own = if l ≠ [] ∧ l.getD 0 0 ≠ own.getD 0 0 then 9 else 0 := by unfold lstErr; rw [if_neg (by omega), if_neg (by omega)]
      refine zR (zc @hnl (zc @iRows_len (zc @hI trivial))) trivial trivial ?_
      refine AWp.loopS (α:=Nat) 67 (fun j=>[(2,.c (.slice (iRows l) .none)),(8,.c (.int .i64 ((j : Int) + 1)))]) (fun j=>[]) (fun j=>∀ k x, k ≤ j → l[k]? = some x → ¬ x < l.getD 0 0) (fun j=>l.length - j) (0) (hk:=Weak.headL 0 67 [2, 8] zW) (h0:=?_) (round:=fun j hI=>?_)
      · intro k x hk hx
        have : k = 0 := by omega
        subst this
        rw [List.getD_eq_getElem?_getD, hx]; simp
      · have hinv := hI
        clear hI
        by_cases hltj : j + 1 < l.length
        · have hltJ : (j : Int) + 1 < own.length := by omega
          have f0 := List.getElem?_eq_getElem hltj
          have f1 := iRows_get f0
          have g0 := List.getElem?_eq_getElem (show 0 < l.length by omega)
          have g1 := iRows_get g0
          have hgd : l.getD 0 0 = l[0] := by rw [List.getD_eq_getElem?_getD, g0]; rfl
          have ht : ((j : Int) + 1).toNat = j + 1 := by omega
          have hml := List.getElem_mem hltj
          have hoI : (0 : Int) < own.length := by omega
          generalize l[j + 1] = x at *
          generalize l[0] = z at *
          by_cases hxz : x < z
          · have e : lstErr l own = 9 := by rw [herr, if_pos]; exact hh.2 ⟨x, hml, by rw [hgd]; exact hxz⟩
            rw [e]
            refine zR (zc @hltJ (zc @hI (zc @iRows_len (zc @f1 (zc @g1 (zc @ht (zc @Int.toNat_zero (zc @hxz (zc @hoI trivial))))))))) trivial trivial ?_
            simp [Rets, aret, Blk.cells, ty, Tryz.results52, ares, toT1, toT, borrow, borrow0, capCell, toTree0, tint]
          · have hxz2 : z ≤ x := by omega
            refine zR (zc @hltJ (zc @hI (zc @iRows_len (zc @f1 (zc @g1 (zc @ht (zc @Int.toNat_zero (zc @hxz (zc @hoI trivial))))))))) trivial trivial ?_
            refine ⟨j + 1,Weak.headN 0 67 [2, 8] zW,?_,?_⟩
            · intro k y hk hy
              by_cases e : k = j + 1
              · subst e
                rw [f0] at hy
                cases hy
                rw [hgd]; exact hxz
              · exact hinv k y (by omega) hy
            · omega
        · have hnlj : ¬ ((j : Int) + 1 < own.length) := by omega
          have e : lstErr l own = 0 := by
            rw [herr, if_neg]
            intro h
            obtain ⟨x, hx, hlt⟩ := hh.1 h
            obtain ⟨k, hk, rfl⟩ := List.mem_iff_getElem.1 hx
            exact hinv k _ (by omega) (List.getElem?_eq_getElem hk) hlt
          rw [e]
          refine zR (zc @hnlj (zc @hI (zc @iRows_len trivial))) trivial trivial ?_
          simp [Rets, aret, Blk.cells, ty, Tryz.results52, ares, toT1, toT, borrow, borrow0, capCell, toTree0, tint]
theorem refCheck_ok (r : R) (hs : RSm r) : ACall Tryz.prog 15 [tR r] (tint (ribE r)) := by
  have hJ := refJoined_ok r.g hs.es
  by_cases hj : joinedE r.g = 0
  case neg =>
    have e : ribE r = joinedE r.g := by unfold ribE; rw [if_pos hj]
    rw [e]
    clear e
    generalize joinedE r.g = E at *
    obtain ⟨n, es, ar⟩ := r
    refine ACall.of_body Tryz.func15 rfl (by kernel_rfl) ?_
    simp only [entry, Tryz.ntmps15, tR]
    refine zU ?_
    refine zR (zc @hj trivial) (zc hJ trivial) trivial ?_
    simp [Rets, aret, Blk.cells, ty, Tryz.results15, ares, toT1, toT, borrow, borrow0, capCell, toTree0, tint]
  have hc : checkG r.g = 0 := by
    unfold joinedE at hj
    by_cases h : checkG r.g = 0
    · exact h
    · rw [if_pos h] at hj; exact absurd hj h
  have h12 : 1 ≤ r.n ∧ r.n ≤ 12 := (checkG_zero.1 hc).1
  have eR : ribE r = if (r.ar.length : Int) ≠ r.n then 8 else chkGo (endsL r.es) (2 * (endsL r.es).length) 0 r.ar := by unfold ribE; rw [if_neg (by omega)]
  rw [eR]
  rw [hj] at hJ
  have hAr := fun (v : Nat) (hv : (v : Int) < r.n) (l : List Int) (hl : l.length < 2 ^ 20) => around_ok r.g hs.es hc v hv l hl
  have hLl := hs.l
  have hA := hs.ar
  clear hs hj hc eR
  obtain ⟨n, es, ar⟩ := r
  simp only [R.g] at hJ hAr h12 hLl hA ⊢
  generalize hL : endsL es = L at *
  obtain ⟨k, rfl⟩ := Int.eq_ofNat_of_zero_le (show 0 ≤ n by omega)
  refine ACall.of_body Tryz.func15 rfl (by kernel_rfl) ?_
  simp only [entry, Tryz.ntmps15, tR]
  refine zU ?_
  by_cases hlen2 : ar.length = k
  case neg =>
    have hI : ¬ ((ar.length : Int) = k) := by omega
    rw [if_pos hI]
    refine zR (zc @llRows_len (zc @hI trivial)) (zc hJ trivial) trivial ?_
    simp [Rets, aret, Blk.cells, ty, Tryz.results15, ares, toT1, toT, borrow, borrow0, capCell, toTree0, tint]
  have hI : (ar.length : Int) = k := by omega
  rw [if_neg (show ¬ ((ar.length : Int) ≠ (k : Int)) by omega)]
  refine zR (zc @llRows_len (zc @hI trivial)) (zc hJ trivial) trivial ?_
  refine AWp.loopS (α:=Nat) 38 (fun i=>[(1,.c (.ptr 0 0)),(4,.c (.int .i64 (i : Int)))]) (fun i=>[.box [.int .i64 (k : Int), .slice (eRows es) .none, .slice (llRows ar) .none]]) (fun i=>i ≤ k ∧ chkGo L (2 * L.length) 0 ar = chkGo L (2 * L.length) i (ar.drop i)) (fun i=>k - i) (0) (hk:=Weak.headL 1 38 [1, 4] zW) (h0:=?_) (round:=fun i hI=>?_)
  · exact ⟨Nat.zero_le _, rfl⟩
  · obtain ⟨hi, hI2⟩ := hI
    by_cases hlt : i < k
    · have hltI : (i : Int) < k := by omega
      have hil : i < ar.length := by omega
      have e0 := List.getElem?_eq_getElem hil
      have e1 := llRows_get e0
      have hd := List.drop_eq_getElem_cons hil
      have hl := hLl _ (List.getElem_mem hil)
      generalize ar[i] = l at *
      have hlist := hAr i hltI l hl
      have hg : chkGo L (2 * L.length) i (l :: ar.drop (i + 1)) = if lstErr l (ownL L (i : Int) (2 * L.length)) ≠ 0 then lstErr l (ownL L (i : Int) (2 * L.length)) else chkGo L (2 * L.length) (i + 1) (ar.drop (i + 1)) := rfl
      rw [← hd, ← hI2] at hg
      generalize lstErr l (ownL L (i : Int) (2 * L.length)) = E at *
      by_cases hE : E = 0
      · rw [if_neg (by omega)] at hg
        subst hE
        refine zR (zc @hltI (zc @llRows_len (zc @hI (zc @e1 trivial)))) (zc hlist trivial) trivial ?_
        refine ⟨i + 1,Weak.headN 1 38 [1, 4] zW,?_,?_⟩
        · exact ⟨hlt, hg⟩
        · omega
      · rw [if_pos hE] at hg
        rw [hg]
        refine zR (zc @hltI (zc @llRows_len (zc @hI (zc @e1 (zc @hE trivial))))) (zc hlist trivial) trivial ?_
        simp [Rets, aret, Blk.cells, ty, Tryz.results15, ares, toT1, toT, borrow, borrow0, capCell, toTree0, tint]
    · have ei : i = k := by omega
      subst ei
      have hz : chkGo L (2 * L.length) 0 ar = 0 := by rw [hI2, List.drop_eq_nil_of_le (by omega)]; rfl
      have hnl : ¬ ((i : Int) < i) := by omega
      rw [hz]
      refine zR (zc @hnl trivial) trivial trivial ?_
      simp [Rets, aret, Blk.cells, ty, Tryz.results15, ares, toT1, toT, borrow, borrow0, capCell, toTree0, tint]
end Go.Proofs.YtfkegnhpihoncaaGreat
set_option linter.all false
namespace Go.Proofs.YtfkegnhpihoncaaGreat
open Go.Sp
set_option linter.unusedSimpArgs false
set_option linter.unusedVariables false
set_option maxHeartbeats 4000000
set_option maxRecDepth 100000
end Go.Proofs.YtfkegnhpihoncaaGreat
set_option linter.all false
namespace Go.Proofs.YtfkegnhpihoncaaGreat
open Go.Sp
set_option linter.unusedSimpArgs false
set_option linter.unusedVariables false
set_option maxHeartbeats 4000000
set_option maxRecDepth 100000
def smallB (g : G) (a b : Int) : Bool := decide (g.es.length ≤ 40) && (decide (checkG g ≠ 0) || (decide (g.n ≤ a) && decide (((endsL g.es).length : Int) ≤ b)))
theorem small_ok (g : G) (a b : Int) : ACall Tryz.prog 84 [tG g, tint a, tint b] (tbool (smallB g a b)) := by
  refine ACall.of_body Tryz.func84 rfl (by kernel_rfl) ?_
  simp only [entry, Tryz.ntmps84, tG, tint]
  refine zU ?_
  by_cases hl : g.es.length ≤ 40
  · by_cases hc : checkG g = 0
    · have hs := sm_of (g := g) (by omega) hc
      have e : smallB g a b = (decide (g.n ≤ a) && decide (((endsL g.es).length : Int) ≤ b)) := by unfold smallB; rw [decide_eq_true hl, hc, Bool.true_and, show decide ((0 : Int) ≠ 0) = false by decide, Bool.false_or]
      rw [e]
      by_cases hn : g.n ≤ a
      · rw [decide_eq_true hn, Bool.true_and]
        repeat' (first|((first|(refine zT ?_;intro K' hK')|(refine zG ?_ ?_<;>(try refine zH ?_)<;>intro hguard<;>(try exact zX)<;>try intro K' hK'))<;>((try simp +contextual only [go_sem, eRows_len, hc, hn]);(repeat' first|(with_reducible refine hK' _ _ ?_;clear hK' K')|((with_reducible first|refine zL (c:=CheckR_ok g (by omega)) (q:=?_)|refine zK (SizeR_ok g hs.s hs.es hs.m) ?_);try simp +contextual only [go_sem, eRows_len, hc, hn])|exact zY|with_reducible refine And.intro ?_ ?_|(with_reducible intro hpath;try exact zP)|(refine hK' _ _ ?_;clear hK' K')|fail);try refine zS ?_))|(refine zE ?_;refine hK _ _ ?_;clear hK K)|(refine zN ?_;try refine zS ?_)|refine zA ?_|(refine zB ?_;intro K hK)|(refine zC ?_ ?_<;>(try refine zH ?_)<;>intro hcond<;>try exact zX)|fail)
        simp [Rets, aret, Blk.cells, ty, Tryz.results84, ares, toT1, toT, borrow, borrow0, capCell, toTree0, tbool]
      · rw [decide_eq_false hn, Bool.false_and]
        repeat' (first|((first|(refine zT ?_;intro K' hK')|(refine zG ?_ ?_<;>(try refine zH ?_)<;>intro hguard<;>(try exact zX)<;>try intro K' hK'))<;>((try simp +contextual only [go_sem, eRows_len, hc, hn]);(repeat' first|(with_reducible refine hK' _ _ ?_;clear hK' K')|((with_reducible first|refine zL (c:=CheckR_ok g (by omega)) (q:=?_)|refine zK (SizeR_ok g hs.s hs.es hs.m) ?_);try simp +contextual only [go_sem, eRows_len, hc, hn])|exact zY|with_reducible refine And.intro ?_ ?_|(with_reducible intro hpath;try exact zP)|(refine hK' _ _ ?_;clear hK' K')|fail);try refine zS ?_))|(refine zE ?_;refine hK _ _ ?_;clear hK K)|(refine zN ?_;try refine zS ?_)|refine zA ?_|(refine zB ?_;intro K hK)|(refine zC ?_ ?_<;>(try refine zH ?_)<;>intro hcond<;>try exact zX)|fail)
        simp [Rets, aret, Blk.cells, ty, Tryz.results84, ares, toT1, toT, borrow, borrow0, capCell, toTree0, tbool]
    ·
      repeat' (first|((first|(refine zT ?_;intro K' hK')|(refine zG ?_ ?_<;>(try refine zH ?_)<;>intro hguard<;>(try exact zX)<;>try intro K' hK'))<;>((try simp +contextual only [go_sem, eRows_len]);(repeat' first|(with_reducible refine hK' _ _ ?_;clear hK' K')|(with_reducible refine zL (c:=CheckR_ok g (by omega)) (q:=?_);try simp +contextual only [go_sem, eRows_len])|exact zY|with_reducible refine And.intro ?_ ?_|(with_reducible intro hpath;try exact zP)|(refine hK' _ _ ?_;clear hK' K')|fail);try refine zS ?_))|(refine zE ?_;refine hK _ _ ?_;clear hK K)|(refine zN ?_;try refine zS ?_)|refine zA ?_|(refine zB ?_;intro K hK)|(refine zC ?_ ?_<;>(try refine zH ?_)<;>intro hcond<;>try exact zX)|fail)
      have e : smallB g a b = true := by unfold smallB; rw [decide_eq_true hl, decide_eq_true (show checkG g ≠ 0 from hc)]; rfl
      simp [Rets, aret, Blk.cells, ty, Tryz.results84, ares, toT1, toT, borrow, borrow0, capCell, toTree0, tbool, e]
  ·
    refine zR (zc @eRows_len trivial) trivial trivial ?_
    have e : smallB g a b = false := by unfold smallB; rw [decide_eq_false hl]; rfl
    simp [Rets, aret, Blk.cells, ty, Tryz.results84, ares, toT1, toT, borrow, borrow0, capCell, toTree0, tbool, e]
theorem FewG_ok (g : G) : ACall Tryz.prog 46 [tG g] (tbool (smallB g 6 9)) := by
  have h := small_ok g 6 9
  generalize smallB g 6 9 = b at *
  obtain ⟨n, es⟩ := g
  refine ACall.of_body Tryz.func46 rfl (by kernel_rfl) ?_
  simp only [entry, Tryz.ntmps46, tG]
  refine zU ?_
  refine zR trivial (zc h trivial) trivial ?_
  simp [Rets, aret, Blk.cells, ty, Tryz.results46, ares, toT1, toT, borrow, borrow0, capCell, toTree0, tbool]
def fewR (r : R) : Bool := smallB r.g 6 9 && (decide (r.ar.length ≤ 20) && r.ar.all fun l => decide (l.length ≤ 40))
theorem FewR_ok (r : R) : ACall Tryz.prog 11 [tR r] (tbool (fewR r)) := by
  have hG := FewG_ok r.g
  unfold fewR
  obtain ⟨n, es, ar⟩ := r
  simp only [R.g] at hG ⊢
  generalize smallB ⟨n, es⟩ 6 9 = b at *
  refine ACall.of_body Tryz.func11 rfl (by kernel_rfl) ?_
  simp only [entry, Tryz.ntmps11, tR]
  refine zU ?_
  cases b with
  | false =>
    rw [Bool.false_and]
    refine zR trivial (zc hG trivial) trivial ?_
    simp [Rets, aret, Blk.cells, ty, Tryz.results11, ares, toT1, toT, borrow, borrow0, capCell, toTree0, tbool]
  | true =>
    rw [Bool.true_and]
    by_cases hl : ar.length ≤ 20
    case neg =>
      have hlI : 20 < (ar.length : Int) := by omega
      rw [decide_eq_false hl, Bool.false_and]
      refine zR (zc @llRows_len (zc @hlI trivial)) (zc hG trivial) trivial ?_
      simp [Rets, aret, Blk.cells, ty, Tryz.results11, ares, toT1, toT, borrow, borrow0, capCell, toTree0, tbool]
    have hlI : ¬ (20 < (ar.length : Int)) := by omega
    rw [decide_eq_true hl, Bool.true_and]
    refine zR (zc @llRows_len (zc @hlI trivial)) (zc hG trivial) trivial ?_
    refine AWp.loopS (α:=Nat) 28 (fun i=>[(1,.c (.ptr 0 0)),(3,.c (.int .i64 (i : Int)))]) (fun i=>[.box [.int .i64 n, .slice (eRows es) .none, .slice (llRows ar) .none]]) (fun i=>i ≤ ar.length ∧ ∀ k l, k < i → ar[k]? = some l → l.length ≤ 40) (fun i=>ar.length - i) (0) (hk:=Weak.headL 1 28 [1, 3] zW) (h0:=?_) (round:=fun i hI=>?_)
    · exact ⟨Nat.zero_le _, fun k l hk => absurd hk (Nat.not_lt_zero _)⟩
    · obtain ⟨hi, hI2⟩ := hI
      by_cases hlt : i < ar.length
      · have hltI : (i : Int) < ar.length := by omega
        have e0 := List.getElem?_eq_getElem hlt
        have e1 := llRows_get e0
        generalize hx : ar[i] = l at *
        by_cases hll : l.length ≤ 40
        · have hllI : ¬ (40 < (l.length : Int)) := by omega
          refine zR (zc @hltI (zc @llRows_len (zc @iRows_len (zc @e1 (zc @hllI trivial))))) trivial trivial ?_
          refine ⟨i + 1,Weak.headN 1 28 [1, 3] zW,?_,?_⟩
          · refine ⟨hlt, fun k m hk hm => ?_⟩
            by_cases e : k = i
            · subst e; rw [e0] at hm; cases hm; exact hll
            · exact hI2 k m (by omega) hm
          · omega
        · have hllI : 40 < (l.length : Int) := by omega
          have e : (ar.all fun l => decide (l.length ≤ 40)) = false := by
            rw [← Bool.not_eq_true, List.all_eq_true]
            intro h
            have := h l (List.mem_of_getElem? e0)
            exact hll (by simpa using this)
          rw [e]
          refine zR (zc @hltI (zc @llRows_len (zc @iRows_len (zc @e1 (zc @hllI trivial))))) trivial trivial ?_
          simp [Rets, aret, Blk.cells, ty, Tryz.results11, ares, toT1, toT, borrow, borrow0, capCell, toTree0, tbool]
      · have e : (ar.all fun l => decide (l.length ≤ 40)) = true := by
          rw [List.all_eq_true]
          intro l hl2
          obtain ⟨k, hk, rfl⟩ := List.mem_iff_getElem.1 hl2
          exact decide_eq_true (hI2 k _ (by omega) (List.getElem?_eq_getElem hk))
        rw [e]
        have hnl : ¬ ((i : Int) < ar.length) := by omega
        refine zR (zc @hnl (zc @llRows_len trivial)) trivial trivial ?_
        simp [Rets, aret, Blk.cells, ty, Tryz.results11, ares, toT1, toT, borrow, borrow0, capCell, toTree0, tbool]
theorem rsm_of {r : R} (h : fewR r = true) : RSm r := by
  unfold fewR smallB at h
  simp only [Bool.and_eq_true, decide_eq_true_eq, List.all_eq_true] at h
  exact ⟨h.1.1, by omega, fun l hl => by have := h.2.2 l hl; omega⟩
end Go.Proofs.YtfkegnhpihoncaaGreat
