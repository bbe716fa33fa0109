/- A part of the proof: contracts of functions of the program, and plain lemmas. -/
import Derived.Test.YtfkegnhpihoncaaGreatPart17
import Derived.Test.YtfkegnhpihoncaaGreatPart12
import Derived.Test.YtfkegnhpihoncaaGreatLayerC
import Derived.Test.YtfkegnhpihoncaaGreatPart16
import Derived.Test.YtfkegnhpihoncaaGreatPart08
import Derived.Test.YtfkegnhpihoncaaGreatPart10
import Derived.Test.YtfkegnhpihoncaaGreatPart05
import Derived.Shelf.SlSortCmp.NoneTotal
set_option linter.all false
namespace Go.Proofs.YtfkegnhpihoncaaGreat
open Go.Sp
set_option linter.unusedSimpArgs false
set_option linter.unusedVariables false
set_option maxHeartbeats 4000000
set_option maxRecDepth 100000
theorem refEnds_ok (g : G) (hl : g.es.length ≤ 40) (hc : checkG g = 0) : ACall Tryz.prog 55 [tG g] (tpairs (endsL g.es)) := by
  have hs := sm_of (g := g) (by omega) hc
  exact EndsR_ok g hs.s hs.es hs.m
theorem refAt_ok (g : G) (hl : g.es.length ≤ 40) (hc : checkG g = 0) (h : Nat) (hh : h < 2 * (endsL g.es).length) : ACall Tryz.prog 74 [tG g, tint h] (tint (atL (endsL g.es) h)) := by
  have hE := refEnds_ok g hl hc
  have hlen := ends_len hl hc
  have e0 : (endsL g.es)[h / 2]? = some (endsL g.es)[h / 2] := List.getElem?_eq_getElem (by omega)
  have e1 := pRows_get e0
  have ea : atL (endsL g.es) h = if h % 2 = 0 then (endsL g.es)[h / 2].1 else (endsL g.es)[h / 2].2 := by unfold atL; rw [List.getD_eq_getElem?_getD, e0]; rfl
  have hlt : ((h / 2 : Nat) : Int) < (endsL g.es).length := by omega
  rw [ea]
  clear ea
  generalize (endsL g.es)[h / 2] = p at *
  obtain ⟨a, b⟩ := p
  generalize endsL g.es = L at *
  obtain ⟨n, es⟩ := g
  refine ACall.of_body Tryz.func74 rfl (by kernel_rfl) ?_
  simp only [entry, Tryz.ntmps74, tG, tint]
  refine zU ?_
  have hm : h % 2 = 0 ∨ h % 2 = 1 := by omega
  rcases hm with hm | hm
  ·
    refine zR (zc @tdiv2 (zc @tmod2 (zc @hm (zc @hlt (zc @pRows_len (zc @e1 trivial)))))) (zc hE trivial) trivial ?_
    simp [Rets, aret, Blk.cells, ty, Tryz.results74, ares, toT1, toT, borrow, borrow0, capCell, toTree0, tint, hm]
  ·
    refine zR (zc @tdiv2 (zc @tmod2 (zc @hm (zc @hlt (zc @pRows_len (zc @e1 trivial)))))) (zc hE trivial) trivial ?_
    simp [Rets, aret, Blk.cells, ty, Tryz.results74, ares, toT1, toT, borrow, borrow0, capCell, toTree0, tint, hm]
theorem refHalf_ok (g : G) (hl : g.es.length ≤ 40) (hc : checkG g = 0) : ACall Tryz.prog 22 [tG g] (tint (2 * ((endsL g.es).length : Int))) := by
  have hs := sm_of (g := g) (by omega) hc
  have hZ := SizeR_ok g hs.s hs.es hs.m
  have hlen := ends_len hl hc
  generalize endsL g.es = L at *
  obtain ⟨n, es⟩ := g
  refine ACall.of_body Tryz.func22 rfl (by kernel_rfl) ?_
  simp only [entry, Tryz.ntmps22, tG]
  refine zU ?_
  refine zR trivial (zc hZ trivial) trivial ?_
  simp [Rets, aret, Blk.cells, ty, Tryz.results22, ares, toT1, toT, borrow, borrow0, capCell, toTree0, tint]
theorem refConn_ok (g : G) (hl : g.es.length ≤ 40) (hc : checkG g = 0) : ACall Tryz.prog 93 [tG g] (tbool (connB g)) := by
  have h12 := (checkG_zero.1 hc).1
  have hP := Parts_ok g g.n.toNat hc (by omega) (by omega)
  unfold connB
  generalize partsN g.es g.n.toNat g.n.toNat = k at *
  have e : decide (k = 1) = decide ((k : Int) = 1) := decide_eq_decide.2 (by omega)
  rw [e]
  obtain ⟨n, es⟩ := g
  refine ACall.of_body Tryz.func93 rfl (by kernel_rfl) ?_
  simp only [entry, Tryz.ntmps93, tG]
  refine zU ?_
  refine zR trivial (zc hP trivial) trivial ?_
  simp [Rets, aret, Blk.cells, ty, Tryz.results93, ares, toT1, toT, borrow, borrow0, capCell, toTree0, tbool]
theorem refJoined_ok (g : G) (hl : g.es.length ≤ 40) : ACall Tryz.prog 51 [tG g] (tint (joinedE g)) := by
  have hC := CheckR_ok g (by omega)
  unfold joinedE
  by_cases hc : checkG g = 0
  · have hK := refConn_ok g hl hc
    have hCn := hK
    clear hK
    rw [if_neg (by omega)]
    rw [hc] at hC
    generalize connB g = b at *
    obtain ⟨n, es⟩ := g
    refine ACall.of_body Tryz.func51 rfl (by kernel_rfl) ?_
    simp only [entry, Tryz.ntmps51, tG]
    refine zU ?_
    cases b with
    | true =>
      rw [if_pos rfl]
      refine zR trivial (zc hC (zc hCn trivial)) trivial ?_
      simp [Rets, aret, Blk.cells, ty, Tryz.results51, ares, toT1, toT, borrow, borrow0, capCell, toTree0, tint]
    | false =>
      rw [if_neg (by simp)]
      refine zR trivial (zc hC (zc hCn trivial)) trivial ?_
      simp [Rets, aret, Blk.cells, ty, Tryz.results51, ares, toT1, toT, borrow, borrow0, capCell, toTree0, tint]
  · rw [if_pos hc]
    generalize checkG g = E at *
    obtain ⟨n, es⟩ := g
    refine ACall.of_body Tryz.func51 rfl (by kernel_rfl) ?_
    simp only [entry, Tryz.ntmps51, tG]
    refine zU ?_
    refine zR (zc @hc trivial) (zc hC trivial) trivial ?_
    simp [Rets, aret, Blk.cells, ty, Tryz.results51, ares, toT1, toT, borrow, borrow0, capCell, toTree0, tint]
theorem around_ok (g : G) (hl : g.es.length ≤ 40) (hc : checkG g = 0) (v : Nat) (hv : (v : Int) < g.n) (l : List Int) (hll : l.length < 2 ^ 20) :
    ACall Tryz.prog 52 [tG g, tint v, tints l] (tint (lstErr l (ownL (endsL g.es) (v : Int) (2 * (endsL g.es).length)))) := by
  have h12 := (checkG_zero.1 hc).1
  have hD := DegreeR_ok g g.n.toNat hc (by omega) (by omega) v
  rw [own_degR hc (by omega) ⟨by omega, by omega⟩] at hD
  have hH := refHalf_ok g hl hc
  have hA := fun (h : Nat) (hh : h < 2 * (endsL g.es).length) => refAt_ok g hl hc h hh
  have hlen := ends_len hl hc
  have hs := ownL_sorted (endsL g.es) (v : Int) (2 * (endsL g.es).length)
  have hmem := fun x => ownL_mem (L := endsL g.es) (v := (v : Int)) (k := 2 * (endsL g.es).length) (x := x)
  have hol := ownL_len (endsL g.es) (v : Int) (2 * (endsL g.es).length)
  generalize ownL (endsL g.es) (v : Int) (2 * (endsL g.es).length) = own at *
  generalize endsL g.es = L at *
  clear hc
  obtain ⟨n, es⟩ := g
  simp only at hv h12 hl
  refine ACall.of_body Tryz.func52 rfl (by kernel_rfl) ?_
  simp only [entry, Tryz.ntmps52, tG, tint, tints]
  refine zU ?_
  by_cases hlo : l.length = own.length
  case neg =>
    have hI : ¬ ((l.length : Int) = own.length) := by omega
    have e : lstErr l own = 8 := by unfold lstErr; exact if_pos hlo
    rw [e]
    refine zR (zc @iRows_len (zc @hI trivial)) (zc hD trivial) trivial ?_
    simp [Rets, aret, Blk.cells, ty, Tryz.results52, ares, toT1, toT, borrow, borrow0, capCell, toTree0, tint]
  have hI : ((l.length : Int) = own.length) := by omega
  refine zR (zc @iRows_len (zc @hI trivial)) (zc hD trivial) trivial ?_
  refine AWp.loopS (α:=Nat) 67 (fun i=>[(1,.c (.int .i64 (v : Int))),(2,.c (.slice (iRows l) .none)),(3,.c (.ptr 0 0)),(7,.c (.int .i64 (i : Int)))]) (fun i=>[.box [.int .i64 n, .slice (eRows es) .none]]) (fun i=>i ≤ l.length ∧ lstGo own [] l = lstGo own (l.take i) (l.drop i)) (fun i=>l.length - i) (0) (hk:=Weak.headL 1 67 [1, 2, 3, 7] zW) (h0:=?_) (round:=fun i hI=>?_)
  · exact ⟨Nat.zero_le _, rfl⟩
  · obtain ⟨hi, hI2⟩ := hI
    by_cases hlt : i < l.length
    · have hltI : (i : Int) < own.length := by omega
      have e0 := List.getElem?_eq_getElem hlt
      have e1 := iRows_get e0
      have hd := List.drop_eq_getElem_cons hlt
      have htk : l.take (i + 1) = l.take i ++ [l[i]] := List.take_succ_eq_append_getElem hlt
      generalize l[i] = x at *
      have hm := hmem x
      have hHo := Holds_ok (l.take i) x (by rw [List.length_take]; omega)
      have herr : ¬ x ∈ own → lstErr l own = 2 := fun hn => by
        have hg : lstGo own [] l = 2 := by rw [hI2, hd]; simp only [lstGo]; rw [if_neg hn]
        unfold lstErr; rw [if_neg (by omega), hg]; rfl
      by_cases hx0 : x < 0
      · have e := herr (fun h => by have := hm.1 h; omega)
        rw [e]
        refine zR (zc @hltI (zc @hI (zc @iRows_len (zc @e1 (zc @hx0 trivial))))) trivial trivial ?_
        simp [Rets, aret, Blk.cells, ty, Tryz.results52, ares, toT1, toT, borrow, borrow0, capCell, toTree0, tint]
      by_cases hx1 : 2 * (L.length : Int) ≤ x
      · have e := herr (fun h => by have := hm.1 h; omega)
        rw [e]
        refine zR (zc @hltI (zc @hI (zc @iRows_len (zc @e1 (zc @hx0 (zc @hx1 trivial)))))) (zc hH trivial) trivial ?_
        simp [Rets, aret, Blk.cells, ty, Tryz.results52, ares, toT1, toT, borrow, borrow0, capCell, toTree0, tint]
      obtain ⟨y, rfl⟩ := Int.eq_ofNat_of_zero_le (show 0 ≤ x by omega)
      have hyl : y < 2 * L.length := by omega
      have hAy := hA y hyl
      rw [Int.toNat_natCast] at hm
      by_cases hav : atL L y = v
      case neg =>
        have e := herr (fun h => hav (hm.1 h).2.2)
        rw [e]
        generalize atL L y = a at *
        refine zR (zc @hltI (zc @hI (zc @iRows_len (zc @e1 (zc @hx0 (zc @hx1 (zc @hav trivial))))))) (zc hH (zc hAy trivial)) trivial ?_
        simp [Rets, aret, Blk.cells, ty, Tryz.results52, ares, toT1, toT, borrow, borrow0, capCell, toTree0, tint]
      have hin : (y : Int) ∈ own := hm.2 ⟨by omega, by omega, hav⟩
      rw [hav] at hAy
      by_cases hc : (y : Int) ∈ l.take i
      · have hg : lstGo own [] l = 7 := by rw [hI2, hd]; simp only [lstGo]; rw [if_pos hin, if_pos hc]
        have e : lstErr l own = 7 := by unfold lstErr; rw [if_neg (by omega), hg]; rfl
        rw [e]
        rw [decide_eq_true hc] at hHo
        refine zR (zc @hltI (zc @hI (zc @iRows_len (zc @e1 (zc @hx0 (zc @hx1 (zc @iRows_take (zc @Int.ofNat_lt (zc @hlt trivial))))))))) (zc hH (zc hAy (zc hHo trivial))) @iRows_k' ?_
        simp [Rets, aret, Blk.cells, ty, Tryz.results52, ares, toT1, toT, borrow, borrow0, capCell, toTree0, tint]
      · rw [decide_eq_false hc] at hHo
        refine zR (zc @hltI (zc @hI (zc @iRows_len (zc @e1 (zc @hx0 (zc @hx1 (zc @iRows_take (zc @Int.ofNat_lt (zc @hlt trivial))))))))) (zc hH (zc hAy (zc hHo trivial))) @iRows_k' ?_
        refine ⟨i + 1,Weak.headN 1 67 [1, 2, 3, 7] zW,?_,?_⟩
        · refine ⟨hlt, ?_⟩
          rw [hI2, hd, lstGo_step hin hc, ← htk]
        · omega
    · have ei : i = l.length := by omega
      have hg : lstGo own [] l = 0 := by rw [hI2, ei, List.drop_length]; rfl
      have hnl : ¬ ((i : Int) < own.length) := by omega
      have hh := hd_iff hg hlo hs
      have herr : lstErr l own = if l ≠ [] ∧ l.getD 0 0 ≠ own.getD 0 0 then 9 else 0 := by unfold lstErr; rw [if_neg (by omega), if_neg (by omega)]
      refine zR (zc @hnl (zc @iRows_len (zc @hI trivial))) trivial trivial ?_
      refine AWp.loopS (α:=Nat) 67 (fun j=>[(2,.c (.slice (iRows l) .none)),(8,.c (.int .i64 ((j : Int) + 1)))]) (fun j=>[]) (fun j=>∀ k x, k ≤ j → l[k]? = some x → ¬ x < l.getD 0 0) (fun j=>l.length - j) (0) (hk:=Weak.headL 0 67 [2, 8] zW) (h0:=?_) (round:=fun j hI=>?_)
      · intro k x hk hx
        have : k = 0 := by omega
        subst this
        rw [List.getD_eq_getElem?_getD, hx]; simp
      · have hinv := hI
        clear hI
        by_cases hltj : j + 1 < l.length
        · have hltJ : (j : Int) + 1 < own.length := by omega
          have f0 := List.getElem?_eq_getElem hltj
          have f1 := iRows_get f0
          have g0 := List.getElem?_eq_getElem (show 0 < l.length by omega)
          have g1 := iRows_get g0
          have hgd : l.getD 0 0 = l[0] := by rw [List.getD_eq_getElem?_getD, g0]; rfl
          have ht : ((j : Int) + 1).toNat = j + 1 := by omega
          have hml := List.getElem_mem hltj
          have hoI : (0 : Int) < own.length := by omega
          generalize l[j + 1] = x at *
          generalize l[0] = z at *
          by_cases hxz : x < z
          · have e : lstErr l own = 9 := by rw [herr, if_pos]; exact hh.2 ⟨x, hml, by rw [hgd]; exact hxz⟩
            rw [e]
            refine zR (zc @hltJ (zc @hI (zc @iRows_len (zc @f1 (zc @g1 (zc @ht (zc @Int.toNat_zero (zc @hxz (zc @hoI trivial))))))))) trivial trivial ?_
            simp [Rets, aret, Blk.cells, ty, Tryz.results52, ares, toT1, toT, borrow, borrow0, capCell, toTree0, tint]
          · have hxz2 : z ≤ x := by omega
            refine zR (zc @hltJ (zc @hI (zc @iRows_len (zc @f1 (zc @g1 (zc @ht (zc @Int.toNat_zero (zc @hxz (zc @hoI trivial))))))))) trivial trivial ?_
            refine ⟨j + 1,Weak.headN 0 67 [2, 8] zW,?_,?_⟩
            · intro k y hk hy
              by_cases e : k = j + 1
              · subst e
                rw [f0] at hy
                cases hy
                rw [hgd]; exact hxz
              · exact hinv k y (by omega) hy
            · omega
        · have hnlj : ¬ ((j : Int) + 1 < own.length) := by omega
          have e : lstErr l own = 0 := by
            rw [herr, if_neg]
            intro h
            obtain ⟨x, hx, hlt⟩ := hh.1 h
            obtain ⟨k, hk, rfl⟩ := List.mem_iff_getElem.1 hx
            exact hinv k _ (by omega) (List.getElem?_eq_getElem hk) hlt
          rw [e]
          refine zR (zc @hnlj (zc @hI (zc @iRows_len trivial))) trivial trivial ?_
          simp [Rets, aret, Blk.cells, ty, Tryz.results52, ares, toT1, toT, borrow, borrow0, capCell, toTree0, tint]
theorem refCheck_ok (r : R) (hs : RSm r) : ACall Tryz.prog 15 [tR r] (tint (ribE r)) := by
  have hJ := refJoined_ok r.g hs.es
  by_cases hj : joinedE r.g = 0
  case neg =>
    have e : ribE r = joinedE r.g := by unfold ribE; rw [if_pos hj]
    rw [e]
    clear e
    generalize joinedE r.g = E at *
    obtain ⟨n, es, ar⟩ := r
    refine ACall.of_body Tryz.func15 rfl (by kernel_rfl) ?_
    simp only [entry, Tryz.ntmps15, tR]
    refine zU ?_
    refine zR (zc @hj trivial) (zc hJ trivial) trivial ?_
    simp [Rets, aret, Blk.cells, ty, Tryz.results15, ares, toT1, toT, borrow, borrow0, capCell, toTree0, tint]
  have hc : checkG r.g = 0 := by
    unfold joinedE at hj
    by_cases h : checkG r.g = 0
    · exact h
    · rw [if_pos h] at hj; exact absurd hj h
  have h12 : 1 ≤ r.n ∧ r.n ≤ 12 := (checkG_zero.1 hc).1
  have eR : ribE r = if (r.ar.length : Int) ≠ r.n then 8 else chkGo (endsL r.es) (2 * (endsL r.es).length) 0 r.ar := by unfold ribE; rw [if_neg (by omega)]
  rw [eR]
  rw [hj] at hJ
  have hAr := fun (v : Nat) (hv : (v : Int) < r.n) (l : List Int) (hl : l.length < 2 ^ 20) => around_ok r.g hs.es hc v hv l hl
  have hLl := hs.l
  have hA := hs.ar
  clear hs hj hc eR
  obtain ⟨n, es, ar⟩ := r
  simp only [R.g] at hJ hAr h12 hLl hA ⊢
  generalize hL : endsL es = L at *
  obtain ⟨k, rfl⟩ := Int.eq_ofNat_of_zero_le (show 0 ≤ n by omega)
  refine ACall.of_body Tryz.func15 rfl (by kernel_rfl) ?_
  simp only [entry, Tryz.ntmps15, tR]
  refine zU ?_
  by_cases hlen2 : ar.length = k
  case neg =>
    have hI : ¬ ((ar.length : Int) = k) := by omega
    rw [if_pos hI]
    refine zR (zc @llRows_len (zc @hI trivial)) (zc hJ trivial) trivial ?_
    simp [Rets, aret, Blk.cells, ty, Tryz.results15, ares, toT1, toT, borrow, borrow0, capCell, toTree0, tint]
  have hI : (ar.length : Int) = k := by omega
  rw [if_neg (show ¬ ((ar.length : Int) ≠ (k : Int)) by omega)]
  refine zR (zc @llRows_len (zc @hI trivial)) (zc hJ trivial) trivial ?_
  refine AWp.loopS (α:=Nat) 38 (fun i=>[(1,.c (.ptr 0 0)),(4,.c (.int .i64 (i : Int)))]) (fun i=>[.box [.int .i64 (k : Int), .slice (eRows es) .none, .slice (llRows ar) .none]]) (fun i=>i ≤ k ∧ chkGo L (2 * L.length) 0 ar = chkGo L (2 * L.length) i (ar.drop i)) (fun i=>k - i) (0) (hk:=Weak.headL 1 38 [1, 4] zW) (h0:=?_) (round:=fun i hI=>?_)
  · exact ⟨Nat.zero_le _, rfl⟩
  · obtain ⟨hi, hI2⟩ := hI
    by_cases hlt : i < k
    · have hltI : (i : Int) < k := by omega
      have hil : i < ar.length := by omega
      have e0 := List.getElem?_eq_getElem hil
      have e1 := llRows_get e0
      have hd := List.drop_eq_getElem_cons hil
      have hl := hLl _ (List.getElem_mem hil)
      generalize ar[i] = l at *
      have hlist := hAr i hltI l hl
      have hg : chkGo L (2 * L.length) i (l :: ar.drop (i + 1)) = if lstErr l (ownL L (i : Int) (2 * L.length)) ≠ 0 then lstErr l (ownL L (i : Int) (2 * L.length)) else chkGo L (2 * L.length) (i + 1) (ar.drop (i + 1)) := rfl
      rw [← hd, ← hI2] at hg
      generalize lstErr l (ownL L (i : Int) (2 * L.length)) = E at *
      by_cases hE : E = 0
      · rw [if_neg (by omega)] at hg
        subst hE
        refine zR (zc @hltI (zc @llRows_len (zc @hI (zc @e1 trivial)))) (zc hlist trivial) trivial ?_
        refine ⟨i + 1,Weak.headN 1 38 [1, 4] zW,?_,?_⟩
        · exact ⟨hlt, hg⟩
        · omega
      · rw [if_pos hE] at hg
        rw [hg]
        refine zR (zc @hltI (zc @llRows_len (zc @hI (zc @e1 (zc @hE trivial))))) (zc hlist trivial) trivial ?_
        simp [Rets, aret, Blk.cells, ty, Tryz.results15, ares, toT1, toT, borrow, borrow0, capCell, toTree0, tint]
    · have ei : i = k := by omega
      subst ei
      have hz : chkGo L (2 * L.length) 0 ar = 0 := by rw [hI2, List.drop_eq_nil_of_le (by omega)]; rfl
      have hnl : ¬ ((i : Int) < i) := by omega
      rw [hz]
      refine zR (zc @hnl trivial) trivial trivial ?_
      simp [Rets, aret, Blk.cells, ty, Tryz.results15, ares, toT1, toT, borrow, borrow0, capCell, toTree0, tint]
end Go.Proofs.YtfkegnhpihoncaaGreat
set_option linter.all false
namespace Go.Proofs.YtfkegnhpihoncaaGreat
open Go.Sp
set_option linter.unusedSimpArgs false
set_option linter.unusedVariables false
set_option maxHeartbeats 4000000
set_option maxRecDepth 100000
def edgE (g : G) (l : List Int) : Int := if checkG g ≠ 0 then checkG g else subE (endsL g.es).length none l
noncomputable def withG (g : G) (t : List Int) : G := ⟨g.n, sortE (bagL (pkL (endsL g.es) t))⟩
theorem bag_mem {n : Int} {M : List (Int × Int)} (hM : ∀ p, p ∈ M → okP n p) {x y : Int} : (x, y) ∈ endsL (sortE (bagL M)) ↔ ∃ p, p ∈ M ∧ min p.1 p.2 = x ∧ max p.1 p.2 = y := by
  have hb := bag_ok hM M.length (Nat.le_refl _)
  have hcnt : ∀ a b, cntL (bagL M) a b = (M.countP (isP a b) : Int) := fun a b => by
    have e := cntL_bag M a b M.length (Nat.le_refl _)
    rwa [List.take_length] at e
  rw [List.take_length] at hb
  constructor
  · intro h
    obtain ⟨e, he, hx⟩ := endsL_mem h
    have he' := (sortE_perm (bagL M)).mem_iff.1 he
    have hc := cntL_of_mem hb.d he'
    have hm := hb.m e he'
    rw [hcnt] at hc
    have hpos : 0 < M.countP (isP e.a e.b) := by omega
    obtain ⟨p, hp, hq⟩ := List.countP_pos_iff.1 hpos
    unfold isP at hq
    simp only [decide_eq_true_eq] at hq
    cases hx
    exact ⟨p, hp, hq.1, hq.2⟩
  · rintro ⟨p, hp, rfl, rfl⟩
    have hpos : 0 < M.countP (isP (min p.1 p.2) (max p.1 p.2)) := List.countP_pos_iff.2 ⟨p, hp, by unfold isP; simp⟩
    have hne : cntL (bagL M) (min p.1 p.2) (max p.1 p.2) ≠ 0 := by rw [hcnt]; omega
    have hmem := mem_of_cntL hne
    have hm := hb.m _ hmem
    exact List.mem_flatMap.2 ⟨_, (sortE_perm (bagL M)).mem_iff.2 hmem, List.mem_replicate.2 ⟨by simp only at hm ⊢; omega, rfl⟩⟩
theorem conn_sub {l m : List (Int × Int)} (h : ∀ x y, (x, y) ∈ l → (x, y) ∈ m ∨ (y, x) ∈ m) {u w : Nat} (hc : Conn l u w) : Conn m u w := by
  induction hc with
  | refl => exact .refl
  | step _ hs ih =>
    rcases hs with hs | hs
    · rcases h _ _ hs with q | q
      · exact ih.step (.inl q)
      · exact ih.step (.inr q)
    · rcases h _ _ hs with q | q
      · exact ih.step (.inr q)
      · exact ih.step (.inl q)
theorem bag_conn {n : Int} {M : List (Int × Int)} (hM : ∀ p, p ∈ M → okP n p) {u w : Nat} : Conn (endsL (sortE (bagL M))) u w ↔ Conn M u w := by
  constructor
  · refine conn_sub fun x y hxy => ?_
    obtain ⟨p, hp, rfl, rfl⟩ := (bag_mem hM).1 hxy
    obtain ⟨a, b⟩ := p
    rcases Int.le_total a b with h | h
    · rw [Int.min_eq_left h, Int.max_eq_right h]; exact .inl hp
    · rw [Int.min_eq_right h, Int.max_eq_left h]; exact .inr hp
  · refine conn_sub fun x y hxy => ?_
    have := (bag_mem hM (x := min x y) (y := max x y)).2 ⟨(x, y), hxy, rfl, rfl⟩
    rcases Int.le_total x y with h | h
    · rw [Int.min_eq_left h, Int.max_eq_right h] at this; exact .inl this
    · rw [Int.min_eq_right h, Int.max_eq_left h] at this; exact .inr this
theorem bag_check {n : Int} (hn : 1 ≤ n ∧ n ≤ 12) {M : List (Int × Int)} (hM : ∀ p, p ∈ M → okP n p) (hl : M.length ≤ 50) : checkG ⟨n, sortE (bagL M)⟩ = 0 ∧ (sortE (bagL M)).length ≤ M.length := by
  have hb := bag_ok hM M.length (Nat.le_refl _)
  rw [List.take_length] at hb
  refine ⟨checkG_zero.2 ⟨hn, fun e he => ?_, sortE_sorted hb.d⟩, ?_⟩
  · have he' := (sortE_perm (bagL M)).mem_iff.1 he
    have h1 := hb.m e he'
    have h2 := hb.r e he'
    unfold okE; simp only; omega
  · rw [(sortE_perm (bagL M)).length_eq]; exact hb.len
end Go.Proofs.YtfkegnhpihoncaaGreat
set_option linter.all false
namespace Go.Proofs.YtfkegnhpihoncaaGreat
open Go.Sp Go.RowKit
open Go.Sort (SWO)
set_option linter.unusedSimpArgs false
set_option linter.unusedVariables false
set_option maxHeartbeats 4000000
set_option maxRecDepth 100000
def mnL (L : List (Int × Int)) (a : Nat) : Int := min (L.getD a (0, 0)).1 (L.getD a (0, 0)).2
def mxL (L : List (Int × Int)) (a : Nat) : Int := max (L.getD a (0, 0)).1 (L.getD a (0, 0)).2
def cfN (L : List (Int × Int)) (a b : Nat) : Int := orI [cmpI (mnL L a) (mnL L b), cmpI (mxL L a) (mxL L b), cmpI a b]
def ltN (L : List (Int × Int)) (a b : Nat) : Prop := mnL L a < mnL L b ∨ (mnL L a = mnL L b ∧ (mxL L a < mxL L b ∨ (mxL L a = mxL L b ∧ a < b)))
instance ltN.dec (L : List (Int × Int)) (a b : Nat) : Decidable (ltN L a b) := by unfold ltN; infer_instance
theorem cfN_lt (L : List (Int × Int)) (a b : Nat) : cfN L a b < 0 ↔ ltN L a b := by
  unfold cfN orI orI orI cmpI ltN
  (repeat' split) <;> simp_all [orI] <;> omega
theorem closN_ok (L : List (Int × Int)) (hl : L.length < 2 ^ 40) (a b : Nat) (ha : a < L.length) (hb : b < L.length) : ACall Tryz.prog 101 [tint a, tint b, .t (.rptr [.slice (pRows L)])] (tint (cfN L a b)) := by
  have ea := List.getElem?_eq_getElem ha
  have eb := List.getElem?_eq_getElem hb
  have ra := pRows_get ea
  have rb := pRows_get eb
  have hmna : mnL L a = min L[a].1 L[a].2 := by unfold mnL; rw [List.getD_eq_getElem?_getD, ea]; rfl
  have hmxa : mxL L a = max L[a].1 L[a].2 := by unfold mxL; rw [List.getD_eq_getElem?_getD, ea]; rfl
  have hmnb : mnL L b = min L[b].1 L[b].2 := by unfold mnL; rw [List.getD_eq_getElem?_getD, eb]; rfl
  have hmxb : mxL L b = max L[b].1 L[b].2 := by unfold mxL; rw [List.getD_eq_getElem?_getD, eb]; rfl
  have haI : (a : Int) < L.length := by omega
  have hbI : (b : Int) < L.length := by omega
  have hO := Or_ok [cmpI (mnL L a) (mnL L b), cmpI (mxL L a) (mxL L b), cmpI a b] (by simp)
  have c1 := Compare_ok (mnL L a) (mnL L b)
  have c2 := Compare_ok (mxL L a) (mxL L b)
  have c3 := Compare_ok a b
  unfold cfN
  generalize L[a] = p at *
  generalize L[b] = q at *
  rw [hmna, hmnb] at c1 hO ⊢
  rw [hmxa, hmxb] at c2 hO ⊢
  generalize cmpI (min p.1 p.2) (min q.1 q.2) = x at *
  generalize cmpI (max p.1 p.2) (max q.1 q.2) = y at *
  generalize cmpI (a : Int) (b : Int) = z at *
  simp only [ints, List.map_cons, List.map_nil] at hO
  generalize orI [x, y, z] = o at *
  refine ACall.of_body Tryz.func101 rfl (by kernel_rfl) ?_
  simp only [entry, Tryz.ntmps101, tint]
  refine zU ?_
  refine zRc (zc @haI (zc @hbI (zc @ra (zc @rb (zc @pRows_len (zc @Int.toNat_zero (zc @Int.toNat_one trivial))))))) (zc c1 (zc c2 (zc c3 (zc hO trivial)))) trivial ?_
  simp [Rets, aret, Blk.cells, ty, Tryz.results101, ares, toT1, toT, borrow, borrow0, capCell, toTree0, tint]
theorem swoN (L : List (Int × Int)) (m : Nat) : SWO (Go.Proofs.ltOf fun x y : Fin m => cfN L x.val y.val) where
  irrefl x := by
    rw [← Bool.not_eq_true]
    unfold Go.Proofs.ltOf
    rw [decide_eq_true_eq, cfN_lt]; unfold ltN; omega
  trans x y z h1 h2 := by
    unfold Go.Proofs.ltOf at *
    rw [decide_eq_true_eq, cfN_lt] at *; unfold ltN at *; omega
  ntrans x y z h1 h2 := by
    rw [← Bool.not_eq_true] at *
    unfold Go.Proofs.ltOf at *
    rw [decide_eq_true_eq, cfN_lt] at *; unfold ltN at *; omega
theorem enterSN : ∀ args w, (callFunc 100 args).run Tryz.prog w = .ok (.enter 100 args) w := Go.Proofs.enters_of Tryz.func100 (by kernel_rfl) rfl
def cellF {m : Nat} (x : Fin m) : Tree := .int .i64 (x.val : Int)
theorem SortN_ok (L : List (Int × Int)) (hl : L.length < 2 ^ 40) (h0 : 0 < L.length) (xs : List (Fin L.length)) (hx : xs.length < 2 ^ 40) {H : List Blk} {id cap : Nat} (hid : H[id]? = some (.box (flatRows (cellRows cellF xs)))) :
    ACallH Tryz.prog 100 H [.c (.ref id 1 0 xs.length cap), .c (.fn 101 [.tree (.rptr [.slice (pRows L)])])]
      (H.set id (.box (flatRows (cellRows cellF (@sortL (Fin L.length) ⟨⟨0, h0⟩⟩ (fun x y => cfN L x.val y.val) xs))))) (.tup []) := by
  exact @SortFunc1_call (Fin L.length) ⟨⟨0, h0⟩⟩ cellF _ _ laySortC (fun _ => rfl) (fun x y => cfN L x.val y.val) (swoN L L.length) 101 [.rptr [.slice (pRows L)]] (fun x y => closN_ok L hl x.val y.val x.isLt y.isLt) enterSN xs (by omega) H id cap hid
theorem SortN_none {H : List Blk} {id cap : Nat} {v : AVal} (hid : H[id]? = some (.box (iC []))) : ACallH Tryz.prog 100 H [.c (.ref id 1 0 0 cap), v] H (.tup []) := by
  refine ⟨enterSN, fun ι σ w vs hH hl hv => ?_⟩
  match vs, hl with
  | [v0, v1], _ =>
  have h0 : CRel ι σ w H (.ref id 1 0 0 cap) v0 := hv 0 _ v0 rfl rfl
  obtain ⟨b, hi, cap', _, rfl⟩ := h0
  refine (Go.Proofs.AnyF.slices_SortFunc_none { laySortC with } _ cap' v1 w).mono ?_
  rintro e w' ⟨rfl, rfl⟩
  exact ⟨_, ι, σ, rfl, ⟨#[], rfl, rfl, by simp⟩, hH, Mono.refl .., Ext.refl ..⟩
end Go.Proofs.YtfkegnhpihoncaaGreat
