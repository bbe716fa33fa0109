/- A part of the proof. -/
import Derived.Test.YtgklecfiflhjmaaPart28
import Derived.Test.YtgklecfiflhjmaaPart25
import Derived.Test.YtgklecfiflhjmaaPart13
import Derived.Test.YtgklecfiflhjmaaPart17
import Derived.Test.YtgklecfiflhjmaaLayerC
set_option linter.all false
set_option maxHeartbeats 4000000
set_option maxRecDepth 100000
namespace Go.Proofs.Ytgklecfiflhjmaa
open Go.Sp
theorem cright_ok (g : G) : ACall Try.prog 26 [tG g] (tbool (smallB g 6 9 && decide (checkG g = 0))) := by
 have hF := FewG_ok g
 by_cases hf : smallB g 6 9 = true
 case neg =>
  rw [Bool.not_eq_true] at hf
  rw [hf] at hF ⊢
  obtain ⟨n, es⟩ := g
  refine ACall.of_body Try.func26 rfl (by kernel_rfl) ?_
  simp only [entry, Try.ntmps26, tG]
  refine zU ?_
  refine zR trivial (zc hF trivial) trivial ?_
  simp [Rets, aret, Blk.cells, ty, Try.results26, ares, toT1, toT, borrow, borrow0, capCell, toTree0, tbool]
 rw [hf] at hF
 have hes := (few_of hf).es
 have hCk := CheckR_ok g (by omega)
 by_cases hc : checkG g = 0
 case neg =>
  rw [hf, decide_eq_false hc]
  generalize checkG g = E at *
  obtain ⟨n, es⟩ := g
  refine ACall.of_body Try.func26 rfl (by kernel_rfl) ?_
  simp only [entry, Try.ntmps26, tG]
  refine zU ?_
  refine zR (zc @hc trivial) (zc hF (zc hCk trivial)) trivial ?_
  simp [Rets, aret, Blk.cells, ty, Try.results26, ares, toT1, toT, borrow, borrow0, capCell, toTree0, tbool]
 rw [hf, decide_eq_true hc]
 rw [hc] at hCk
 obtain ⟨n, es⟩ := g
 refine ACall.of_body Try.func26 rfl (by kernel_rfl) ?_
 simp only [entry, Try.ntmps26, tG]
 refine zU ?_
 refine zR trivial (zc hF (zc hCk trivial)) trivial ?_
 simp [Rets, aret, Blk.cells, ty, Try.results26, ares, toT1, toT, borrow, borrow0, capCell, toTree0, tbool]
section
variable {g : G} {n w : Nat}
theorem minC_of (hc : checkG g = 0) (hn : g.n = n) (h2 : 2 ≤ n) : ∃ w, MinC g n w := by
 have h4 : 2 ^ 2 ≤ 2 ^ n := Nat.pow_le_pow_right (by omega) h2
 obtain ⟨w, w1, w2, w3, w4⟩ := connW_best (n := n) (es := g.es) (fun e he => by have := (checkG_zero.1 hc).2.1 e he; unfold okE at this; omega) (2 ^ n - 1) (by omega)
 exact ⟨w, hc, hn, h2, w1, w2, w3, w4⟩
theorem setN_sorted (n w : Nat) : (setN n w).Pairwise (· < ·) := List.pairwise_lt_range.filter _
theorem setN_sub (n : Int) (m w : Nat) (hn : n = m) : subE n none (zI (setN m w)) = 0 := by
 refine subE_zero (fun x hx => ?_) (zI_sorted (setN_sorted m w)) (fun w hw => by cases hw)
 obtain ⟨a, rfl, ha, _⟩ := setN_mem.1 hx
 omega
theorem setN_head (n w : Nat) (hn : 0 < n) (h : bitN w 0 = 1) : ∃ T, setN n w = 0 :: T := by
 obtain ⟨m, rfl⟩ : ∃ m, n = m + 1 := ⟨n - 1, by omega⟩
 unfold setN
 rw [List.range_succ_eq_map, List.filter_cons, if_pos (decide_eq_true h)]
 exact ⟨_, rfl⟩
theorem setN_full (n w : Nat) : (setN n w).length = n ↔ ∀ v, v < n → bitN w v = 1 := by
 unfold setN
 have h := List.length_filter_eq_length_iff (l := List.range n) (p := fun v => decide (bitN w v = 1))
 rw [List.length_range] at h
 rw [h]
 simp
theorem MinC.cutS (h : MinC g n w) (w' : Nat) : ((cutL (zI (setN n w')) (endsL g.es)).length : Int) = cutW w' g.es :=
 cut_size w' fun e he => by have := h.rng e he; have := h.m e he; omega
theorem MinC.S_ne (h : MinC g n w) : (setN n w).length ≠ n := fun q => by
 obtain ⟨v, hv, pv⟩ := h.zero_bit
 have := (setN_full n w).1 q v hv
 rw [this] at pv
 cases pv
theorem MinC.any (h : MinC g n w) (w' : Nat) (h1 : (zI (setN n w')).length ≠ 0) (h2 : (zI (setN n w')).length ≠ n) : cutW w g.es ≤ ((cutL (zI (setN n w')) (endsL g.es)).length : Int) := by
 rw [h.cutS, cutW_P w']
 rw [zI_len] at h1 h2
 obtain ⟨u, hu⟩ : ∃ u, u ∈ setN n w' := List.exists_mem_of_ne_nil _ (fun q => h1 (by rw [q]; rfl))
 obtain ⟨v, hv, bv⟩ : ∃ v, v < n ∧ bitN w' v ≠ 1 := Classical.byContradiction fun q => h2 ((setN_full n w').2 fun v hv => Classical.byContradiction fun r => q ⟨v, hv, r⟩)
 unfold setN at hu
 rw [List.mem_filter, List.mem_range] at hu
 exact h.least hu.1 hv hu.2 (decide_eq_false bv)
theorem MinC.bond (h : MinC g n w) : bondB g (zI (setN n w)) = connB g := by
 have hn := h.n'
 have hnn : g.n.toNat = n := by omega
 unfold bondB
 rw [hnn]
 have hcnt := cparts_count h.c h.n'
 have : decide ((partsV (genS (pairsE g.es)).1 n).length = 1) = connB g := by
  unfold connB
  rw [hnn]
  exact decide_eq_decide.2 (by omega)
 rw [this]
 cases hcn : connB g with
 | false => rfl
 | true =>
  have hin : ∀ (neg : Bool) (v : Nat), v < n → (inR (zI (setN n w)) neg n).getD v false = xor neg (decide (bitN w v = 1)) := fun neg v hv => by
   rw [inR_get _ _ hv, decide_eq_decide.2 (setN_in hv)]
  have hcut : ∀ neg : Bool, cutP (fun v => (inR (zI (setN n w)) neg n).getD v false) g.es = cutW w g.es := fun neg => by
   rw [cutW_P]
   rw [cutP_congr (q := fun v => xor neg (decide (bitN w v = 1))) fun e he => ⟨hin neg _ (h.rng e he).1, hin neg _ (h.rng e he).2.1⟩]
   cases neg with
   | false => exact cutP_congr fun e he => ⟨Bool.false_xor _, Bool.false_xor _⟩
   | true =>
    rw [← cutP_not]
    exact cutP_congr fun e he => ⟨by simp, by simp⟩
  have h0 := h.bit0
  have hn2 := h.n2
  obtain ⟨v, hv, pv⟩ := h.zero_bit
  have s1 := h.side hcn (hcut false) ⟨0, by omega, by rw [hin _ _ (by omega), decide_eq_true h0]; rfl⟩ ⟨v, hv, by rw [hin _ _ hv, pv]; rfl⟩
  have s2 := h.side hcn (hcut true) ⟨v, hv, by rw [hin _ _ hv, pv]; rfl⟩ ⟨0, by omega, by rw [hin _ _ (by omega), decide_eq_true h0]; rfl⟩
  rw [s1, s2]; rfl
end
theorem Cuts_law (g : G) (m : Int) (hm : 0 ≤ m ∧ m ≤ 255) : ACall Try.prog 9 [tG g, .t (.int .u8 m)] (tbool true) := by
 have hR := cright_ok g
 have hA := cawake_ok
 by_cases hf : smallB g 6 9 = true
 case neg =>
  rw [Bool.not_eq_true] at hf
  rw [hf, Bool.false_and] at hR
  obtain ⟨n, es⟩ := g
  refine ACall.of_body Try.func9 rfl (by kernel_rfl) ?_
  simp only [entry, Try.ntmps9, tG]
  refine zU ?_
  refine zR trivial (zc hR (zc hA trivial)) trivial ?_
  simp [Rets, aret, Blk.cells, ty, Try.results9, ares, toT1, toT, borrow, borrow0, capCell, toTree0, tbool]
 have hfw := few_of hf
 have hes := hfw.es
 by_cases hc : checkG g = 0
 case neg =>
  rw [decide_eq_false hc, Bool.and_false] at hR
  obtain ⟨n, es⟩ := g
  refine ACall.of_body Try.func9 rfl (by kernel_rfl) ?_
  simp only [entry, Try.ntmps9, tG]
  refine zU ?_
  refine zR trivial (zc hR (zc hA trivial)) trivial ?_
  simp [Rets, aret, Blk.cells, ty, Try.results9, ares, toT1, toT, borrow, borrow0, capCell, toTree0, tbool]
 rw [hf, decide_eq_true hc, Bool.and_self] at hR
 have h12 := (checkG_zero.1 hc).1
 have hsz := hfw.sz hc
 obtain ⟨n, hn⟩ : ∃ n : Nat, g.n = n := ⟨g.n.toNat, by omega⟩
 by_cases h2 : g.n < 2
 ·obtain ⟨nI, es⟩ := g
  refine ACall.of_body Try.func9 rfl (by kernel_rfl) ?_
  simp only [entry, Try.ntmps9, tG]
  refine zU ?_
  refine zR (zc @h2 trivial) (zc hR (zc hA trivial)) trivial ?_
  simp [Rets, aret, Blk.cells, ty, Try.results9, ares, toT1, toT, borrow, borrow0, capCell, toTree0, tbool]
 obtain ⟨w, hM⟩ := minC_of hc hn (by omega)
 have hnn : g.n.toNat = n := by omega
 have hCo := Connectivity_ok g hes
 have he2 : connE g = 0 := by unfold connE; rw [if_neg (by omega), if_neg (by omega)]
 rw [he2, if_neg (by decide), if_neg (by decide), hnn, hM.eq] at hCo
 simp only at hCo
 have hsl : (zI (setN n w)).length ≤ n := by rw [zI_len]; exact setN_len n w
 have hsm := SubsetR_ok g (zI (setN n w)) (by omega)
 rw [setN_sub g.n n w hn] at hsm
 obtain ⟨k, hk⟩ : ∃ k : Nat, m = k := ⟨m.toNat, by omega⟩
 have hSN := subN_ok n k (by omega) (by omega)
 rw [← hk, ← hn] at hSN
 have hcut := fun set hs => CutR_ok g set (sm_of (by omega) hc) hs
 have hcS := hcut (zI (setN n w)) (by omega)
 have hal : (zI (setN n k)).length ≤ n := by rw [zI_len]; exact setN_len n k
 have hcA := hcut (zI (setN n k)) (by omega)
 have hCn := Connected_ok g (by omega)
 rw [hc, decide_eq_true rfl, Bool.true_and] at hCn
 have hBd := Bond_ok g (zI (setN n w)) hes (by omega)
 have hsg : subG g (zI (setN n w)) = 0 := by unfold subG; rw [if_neg (by omega), setN_sub g.n n w hn]
 rw [hsg, decide_eq_true rfl, Bool.true_and, hM.bond] at hBd
 have c1 := hM.cutS w
 have c2 := hM.any k
 have c3 := hM.pos_iff
 obtain ⟨T, hT⟩ := setN_head n w (by omega) hM.bit0
 have hne := hM.S_ne
 rw [← zI_len] at hne
 have hS0 : zI (setN n w) = 0 :: zI T := by rw [hT]; rfl
 have hcl := fun set => cutL_len set (endsL g.es)
 have hel := (sm_of (g := g) (by omega) hc).s
 have cl1 := hcl (zI (setN n w))
 have cl2 := hcl (zI (setN n k))
 have f2 : ¬ (((zI (setN n w)).length : Nat) : Int) = g.n := by omega
 have f1 : ¬ (((zI (setN n w)).length : Nat) : Int) = 0 := by rw [hS0, List.length_cons]; omega
 have f3 : (iRows (zI (setN n w)))[0]? = some [.int .i64 0] := by rw [hS0]; rfl
 generalize connB g = cb at *
 generalize cutW w g.es = c at *
 generalize zI (setN n k) = A at *
 generalize zI (setN n w) = S at *
 generalize cutL S (endsL g.es) = LS at *
 generalize cutL A (endsL g.es) = LA at *
 obtain ⟨nI, es⟩ := g
 simp only at hn h2 hc
 subst hn
 refine ACall.of_body Try.func9 rfl (by kernel_rfl) ?_
 simp only [entry, Try.ntmps9, tG]
 refine zU ?_
 cases cb
 ·
  have c4 : ¬ 0 < c := fun q => by rw [decide_eq_true q] at c3; cases c3
  repeat' (first|((first|(refine zT ?_;intro K' hK')|(refine zG ?_ ?_<;>(try refine zH ?_)<;>intro hguard<;>(try exact zX)<;>try intro K' hK'))<;>((try simp +contextual only [go_sem, h2, f1, f2, f3, iRows_len, c4]);(repeat' first|(with_reducible refine hK' _ _ ?_;clear hK' K')|((with_reducible first|refine zK hR ?_|refine zK hA ?_|refine zK hCo ?_|refine zK hsm ?_|refine zK hSN ?_|refine zK hcS ?_|refine zK hcA ?_|refine zK hCn ?_|refine zK hBd ?_);try simp +contextual only [go_sem, h2, f1, f2, f3, iRows_len, c4])|exact zY|with_reducible refine And.intro ?_ ?_|(with_reducible intro hpath;try exact zP)|(refine hK' _ _ ?_;clear hK' K')|fail);try refine zS ?_))|(refine zE ?_;refine hK _ _ ?_;clear hK K)|(refine zN ?_;try refine zS ?_)|refine zA ?_|(refine zB ?_;intro K hK)|(refine zC ?_ ?_<;>(try refine zH ?_)<;>intro hcond<;>try exact zX)|fail)
  repeat
   simp [Rets, aret, Blk.cells, ty, Try.results9, ares, toT1, toT, borrow, borrow0, capCell, toTree0, tbool]
 ·
  have c4 : 0 < c := of_decide_eq_true c3.symm
  repeat' (first|((first|(refine zT ?_;intro K' hK')|(refine zG ?_ ?_<;>(try refine zH ?_)<;>intro hguard<;>(try exact zX)<;>try intro K' hK'))<;>((try simp +contextual only [go_sem, h2, f1, f2, f3, iRows_len, c4]);(repeat' first|(with_reducible refine hK' _ _ ?_;clear hK' K')|((with_reducible first|refine zK hR ?_|refine zK hA ?_|refine zK hCo ?_|refine zK hsm ?_|refine zK hSN ?_|refine zK hcS ?_|refine zK hcA ?_|refine zK hCn ?_|refine zK hBd ?_);try simp +contextual only [go_sem, h2, f1, f2, f3, iRows_len, c4])|exact zY|with_reducible refine And.intro ?_ ?_|(with_reducible intro hpath;try exact zP)|(refine hK' _ _ ?_;clear hK' K')|fail);try refine zS ?_))|(refine zE ?_;refine hK _ _ ?_;clear hK K)|(refine zN ?_;try refine zS ?_)|refine zA ?_|(refine zB ?_;intro K hK)|(refine zC ?_ ?_<;>(try refine zH ?_)<;>intro hcond<;>try exact zX)|fail)
  repeat
   simp [Rets, aret, Blk.cells, ty, Try.results9, ares, toT1, toT, borrow, borrow0, capCell, toTree0, tbool]
end Go.Proofs.Ytgklecfiflhjmaa
