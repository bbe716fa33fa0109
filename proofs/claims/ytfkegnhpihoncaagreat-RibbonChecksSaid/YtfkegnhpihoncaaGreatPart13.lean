/- A part of the proof: contracts of functions of the program, and plain lemmas. -/
import Derived.Test.YtfkegnhpihoncaaGreatPart12
import Derived.Test.YtfkegnhpihoncaaGreatLayerC
import Derived.Test.YtfkegnhpihoncaaGreatPart07
set_option linter.all false
namespace Go.Proofs.YtfkegnhpihoncaaGreat
open Go.Sp
set_option linter.unusedSimpArgs false
set_option linter.unusedVariables false
set_option maxHeartbeats 4000000
set_option maxRecDepth 100000
theorem isNaNc_ok (x : Int) : ACall Tryz.prog 141 [tint x] (tbool false) := by
  refine ACall.of_body Tryz.func141 rfl (by kernel_rfl) ?_
  simp only [entry, Tryz.ntmps141, tint]
  refine zU ?_
  refine zR trivial trivial trivial ?_
  simp [Rets, aret, Blk.cells, ty, Tryz.results141, ares, toT1, toT, borrow, borrow0, capCell, toTree0, tbool]
theorem isNaNs_ok (x : Int) : ACall Tryz.prog 159 [tint x] (tbool false) := by
  refine ACall.of_body Tryz.func159 rfl (by kernel_rfl) ?_
  simp only [entry, Tryz.ntmps159, tint]
  refine zU ?_
  refine zR trivial trivial trivial ?_
  simp [Rets, aret, Blk.cells, ty, Tryz.results159, ares, toT1, toT, borrow, borrow0, capCell, toTree0, tbool]
theorem Less_ok (x y : Int) : ACall Tryz.prog 117 [tint x, tint y] (tbool (decide (x < y))) := by
  refine ACall.of_body Tryz.func117 rfl (by kernel_rfl) ?_
  simp only [entry, Tryz.ntmps117, tint]
  refine zU ?_
  refine zR trivial (zc (isNaNc_ok x) (zc (isNaNc_ok y) trivial)) trivial ?_
  simp [Rets, aret, Blk.cells, ty, Tryz.results117, ares, toT1, toT, borrow, borrow0, capCell, toTree0, tbool]
theorem sshr1 (x : Int) : x.fdiv (2 ^ min 1 IntKind.u64.bits) = x / 2 := by
  rw [show (2 : Int) ^ min 1 IntKind.u64.bits = 2 by decide]
  exact Int.fdiv_eq_ediv_of_nonneg _ (by omega)
theorem sshr2 (x : Int) : x.fdiv (2 ^ min 1 64) = x / 2 := sshr1 x
def loI : List Int → Int → Nat
  | [], _ => 0
  | y :: ys, x => if y < x then loI ys x + 1 else 0
theorem loI_eq : ∀ {l : List Int} {x : Int} {i : Nat}, i ≤ l.length → (∀ k (h : k < l.length), k < i → l[k] < x) → (∀ h : i < l.length, ¬ l[i] < x) → loI l x = i
  | [], x, i, h, _, _ => by simp at h; simp [loI, h]
  | y :: ys, x, i, h, h1, h2 => by
    simp only [loI]
    cases i with
    | zero => exact if_neg (h2 (by simp))
    | succ i =>
      rw [if_pos (show y < x from h1 0 (by simp) (by omega)), loI_eq (i := i) (by simpa using h) (fun k hk hki => h1 (k + 1) (by simpa using hk) (by omega)) (fun hi => h2 (by simpa using hi))]
theorem BinI_ok (l : List Int) (x : Int) (hs : l.Pairwise (· < ·)) (hl : l.length < 2 ^ 40) :
    ACall Tryz.prog 131 [tints l, tint x] (.tup [tint (loI l x), tbool (decide (x ∈ l))]) := by
  rw [List.pairwise_iff_getElem] at hs
  refine ACall.of_body Tryz.func131 rfl (by kernel_rfl) ?_
  simp only [entry, Tryz.ntmps131, tints, tint]
  refine zU ?_
  refine zR (zc @iRows_len trivial) trivial trivial ?_
  refine AWp.loopS (α:=(Nat × Nat)) 54 (fun s=>[(0,.c (.slice (iRows l) .none)),(1,.c (.int .i64 x)),(6,.c (.int .i64 l.length)),(7,.c (.int .i64 (s.1 : Int))),(8,.c (.int .i64 (s.2 : Int)))]) (fun s=>[]) (fun s=>s.1 ≤ s.2 ∧ s.2 ≤ l.length ∧ (∀ k (h : k < l.length), k < s.1 → l[k] < x) ∧ (∀ k (h : k < l.length), s.2 ≤ k → ¬ l[k] < x)) (fun s=>s.2 - s.1) ((0, l.length)) (hk:=Weak.headL 0 54 [0, 1, 6, 7, 8] zW) (h0:=?_) (round:=fun s hI=>?_)
  · exact ⟨Nat.zero_le _, Nat.le_refl _, fun k h hk => absurd hk (Nat.not_lt_zero _), fun k h hk => by omega⟩
  · obtain ⟨i, j⟩ := s
    obtain ⟨hij, hj, h1, h2⟩ := hI
    simp only at hij hj h1 h2 ⊢
    by_cases hlt : i < j
    · have hd : ((i : Int) + (j : Int)) / 2 = (((i + j) / 2 : Nat) : Int) := by omega
      have hm1 : i ≤ (i + j) / 2 := by omega
      have hm2 : (i + j) / 2 < j := by omega
      generalize (i + j) / 2 = m at *
      have hml : m < l.length := by omega
      have e1 := iRows_get (List.getElem?_eq_getElem hml)
      generalize hy : l[m] = y at *
      have hcall := Less_ok y x
      by_cases hlt2 : y < x
      · rw [decide_eq_true hlt2] at hcall
        refine zR (zc @e1 (zc @sshr1 (zc @sshr2 (zc @hd (zc @Int.ofNat_lt (zc @iRows_len trivial)))))) (zc hcall trivial) trivial ?_
        refine ⟨(m + 1, j),Weak.headN 0 54 [0, 1, 6, 7, 8] zW,?_,?_⟩
        · refine ⟨hm2, hj, fun k hk hki => ?_, h2⟩
          by_cases e : k = m
          · subst e; rw [hy]; exact hlt2
          · have := hs k m hk hml (by omega)
            omega
        · simp only; omega
      · rw [decide_eq_false hlt2] at hcall
        refine zR (zc @e1 (zc @sshr1 (zc @sshr2 (zc @hd (zc @Int.ofNat_lt (zc @iRows_len trivial)))))) (zc hcall trivial) trivial ?_
        refine ⟨(i, m),Weak.headN 0 54 [0, 1, 6, 7, 8] zW,?_,?_⟩
        · refine ⟨hm1, by omega, h1, fun k hk hki => ?_⟩
          by_cases e : k = m
          · subst e; rw [hy]; exact hlt2
          · have := hs m k hml hk (by omega)
            omega
        · simp only; omega
    · have eij : i = j := by omega
      subst eij
      have hlo : loI l x = i := loI_eq hj h1 (fun h => h2 i h (Nat.le_refl _))
      rw [hlo]
      by_cases hil : i < l.length
      · have e0 := List.getElem?_eq_getElem hil
        have e1 := iRows_get e0
        have hf : x ∈ l ↔ l[i] = x := by
          constructor
          · intro hm
            obtain ⟨k, hk, e⟩ := List.mem_iff_getElem.1 hm
            rcases Nat.lt_trichotomy k i with h | h | h
            · have := h1 k hk h; omega
            · subst h; exact e
            · have := hs i k hil hk h; have := h2 i hil (Nat.le_refl _); omega
          · intro e; rw [← e]; exact List.getElem_mem hil
        generalize hy : l[i] = y at *
        rw [decide_eq_decide.2 hf]
        by_cases hxy : y = x
        · subst hxy
          refine zR (zc @e1 (zc @Int.ofNat_lt (zc @iRows_len (zc @hil trivial)))) (zc (isNaNs_ok y) trivial) trivial ?_
          simp [Rets, aret, Blk.cells, ty, Tryz.results131, ares, toT1, toT, borrow, borrow0, capCell, toTree0, tint, tbool]
        · rw [decide_eq_false hxy]
          refine zR (zc @e1 (zc @Int.ofNat_lt (zc @iRows_len (zc @hil (zc @hxy trivial))))) (zc (isNaNs_ok y) (zc (isNaNs_ok x) trivial)) trivial ?_
          simp [Rets, aret, Blk.cells, ty, Tryz.results131, ares, toT1, toT, borrow, borrow0, capCell, toTree0, tint, tbool]
      · have hf : ¬ x ∈ l := fun hm => by
          obtain ⟨k, hk, e⟩ := List.mem_iff_getElem.1 hm
          have := h1 k hk (by omega); omega
        rw [decide_eq_false hf]
        refine zR (zc @Int.ofNat_lt (zc @iRows_len (zc @hil trivial))) trivial trivial ?_
        simp [Rets, aret, Blk.cells, ty, Tryz.results131, ares, toT1, toT, borrow, borrow0, capCell, toTree0, tint, tbool]
theorem lstGo_step {own pre t : List Int} {h : Int} (h1 : h ∈ own) (h2 : h ∉ pre) : lstGo own pre (h :: t) = lstGo own (pre ++ [h]) t := by
  simp only [lstGo]; rw [if_pos h1, if_neg h2]
theorem list_ok (l own : List Int) (hs : own.Pairwise (· < ·)) (hl : l.length < 2 ^ 40) (ho : own.length < 2 ^ 40) : ACall Tryz.prog 89 [tints l, tints own] (tint (lstErr l own)) := by
  refine ACall.of_body Tryz.func89 rfl (by kernel_rfl) ?_
  simp only [entry, Tryz.ntmps89, tints]
  refine zU ?_
  by_cases hlen : l.length = own.length
  case neg =>
    have hlI : ¬ ((l.length : Int) = own.length) := by omega
    have e : lstErr l own = 8 := by unfold lstErr; exact if_pos hlen
    rw [e]
    refine zR (zc @iRows_len (zc @hlI trivial)) trivial trivial ?_
    simp [Rets, aret, Blk.cells, ty, Tryz.results89, ares, toT1, toT, borrow, borrow0, capCell, toTree0, tint]
  have hlI : ((l.length : Int) = own.length) := by omega
  refine zR (zc @iRows_len (zc @hlI trivial)) trivial trivial ?_
  refine AWp.loopS (α:=Nat) 47 (fun i=>[(0,.c (.slice (iRows l) .none)),(1,.c (.slice (iRows own) .none)),(14,.c (.slice (iRows l) .none)),(15,.c (.int .i64 (own.length : Int))),(16,.c (.int .i64 (i : Int)))]) (fun i=>[]) (fun i=>i ≤ l.length ∧ lstGo own [] l = lstGo own (l.take i) (l.drop i)) (fun i=>l.length - i) (0) (hk:=Weak.headL 0 47 [0, 1, 14, 15, 16] zW) (h0:=?_) (round:=fun i hI=>?_)
  · exact ⟨Nat.zero_le _, rfl⟩
  · obtain ⟨hi, hI⟩ := hI
    by_cases hlt : i < l.length
    · have hltI : (i : Int) < own.length := by omega
      have e0 := List.getElem?_eq_getElem hlt
      have e1 := iRows_get e0
      have hd := List.drop_eq_getElem_cons hlt
      have htk : l.take (i + 1) = l.take i ++ [l[i]] := List.take_succ_eq_append_getElem hlt
      generalize l[i] = x at *
      have hB := BinI_ok own x hs ho
      by_cases hm : x ∈ own
      case neg =>
        rw [decide_eq_false hm] at hB
        have hg : lstGo own [] l = 2 := by rw [hI, hd]; simp only [lstGo]; rw [if_neg hm]
        have e : lstErr l own = 2 := by unfold lstErr; rw [if_neg (by omega), hg]; rfl
        rw [e]
        refine zR (zc @hltI (zc @iRows_len (zc @e1 trivial))) (zc hB trivial) trivial ?_
        simp [Rets, aret, Blk.cells, ty, Tryz.results89, ares, toT1, toT, borrow, borrow0, capCell, toTree0, tint]
      rw [decide_eq_true hm] at hB
      have hC := Contains_ok (l.take i) x (by rw [List.length_take]; omega)
      by_cases hc : x ∈ l.take i
      · have hg : lstGo own [] l = 7 := by rw [hI, hd]; simp only [lstGo]; rw [if_pos hm, if_pos hc]
        have e : lstErr l own = 7 := by unfold lstErr; rw [if_neg (by omega), hg]; rfl
        rw [e]
        rw [decide_eq_true hc] at hC
        refine zR (zc @hltI (zc @iRows_len (zc @e1 (zc @iRows_take (zc @Int.ofNat_lt (zc @hlt trivial)))))) (zc hB (zc hC trivial)) @iRows_k' ?_
        simp [Rets, aret, Blk.cells, ty, Tryz.results89, ares, toT1, toT, borrow, borrow0, capCell, toTree0, tint]
      · rw [decide_eq_false hc] at hC
        refine zR (zc @hltI (zc @iRows_len (zc @e1 (zc @iRows_take (zc @Int.ofNat_lt (zc @hlt trivial)))))) (zc hB (zc hC trivial)) @iRows_k' ?_
        refine ⟨i + 1,Weak.headN 0 47 [0, 1, 14, 15, 16] zW,?_,?_⟩
        · refine ⟨hlt, ?_⟩
          rw [hI, hd, lstGo_step hm hc, ← htk]
        · omega
    · have ei : i = l.length := by omega
      have hg : lstGo own [] l = 0 := by rw [hI, ei, List.drop_length]; rfl
      have hnl : ¬ ((i : Int) < own.length) := by omega
      by_cases hne : l = []
      · have e : lstErr l own = 0 := by
          unfold lstErr; rw [if_neg (by omega), if_neg (by omega), if_neg (fun h => h.1 hne)]
        rw [e]
        subst hne
        refine zR (zc @hnl (zc @iRows_len trivial)) trivial trivial ?_
        simp [Rets, aret, Blk.cells, ty, Tryz.results89, ares, toT1, toT, borrow, borrow0, capCell, toTree0, tint]
      · have hp : 0 < l.length := List.length_pos_iff.2 hne
        have hpo : 0 < own.length := by omega
        have hpI : (0 : Int) < own.length := by omega
        have e1 := List.getElem?_eq_getElem hp
        have e2 := List.getElem?_eq_getElem hpo
        have r1 := iRows_get e1
        have r2 := iRows_get e2
        have d1 : l.getD 0 0 = l[0] := by rw [List.getD_eq_getElem?_getD, e1]; rfl
        have d2 : own.getD 0 0 = own[0] := by rw [List.getD_eq_getElem?_getD, e2]; rfl
        have e : lstErr l own = if l[0] = own[0] then 0 else 9 := by
          unfold lstErr
          rw [if_neg (by omega), if_neg (by omega), d1, d2]
          by_cases h : l[0] = own[0]
          · rw [if_pos h, if_neg (fun h2 => h2.2 h)]
          · rw [if_neg h, if_pos ⟨hne, h⟩]
        rw [e]
        generalize l[0] = x at *
        generalize own[0] = y at *
        by_cases hxy : x = y
        · rw [if_pos hxy]
          refine zR (zc @hnl (zc @iRows_len (zc @hlI (zc @hpI (zc @r1 (zc @r2 (zc @hxy (zc @Int.toNat_zero trivial)))))))) trivial trivial ?_
          simp [Rets, aret, Blk.cells, ty, Tryz.results89, ares, toT1, toT, borrow, borrow0, capCell, toTree0, tint]
        · rw [if_neg hxy]
          refine zR (zc @hnl (zc @iRows_len (zc @hlI (zc @hpI (zc @r1 (zc @r2 (zc @hxy (zc @Int.toNat_zero trivial)))))))) trivial trivial ?_
          simp [Rets, aret, Blk.cells, ty, Tryz.results89, ares, toT1, toT, borrow, borrow0, capCell, toTree0, tint]
end Go.Proofs.YtfkegnhpihoncaaGreat
set_option linter.all false
namespace Go.Proofs.YtfkegnhpihoncaaGreat
open Go.Sp
set_option linter.unusedSimpArgs false
set_option linter.unusedVariables false
set_option maxHeartbeats 4000000
set_option maxRecDepth 100000
structure RSm (r : R) : Prop where
  es : r.es.length ≤ 40
  ar : r.ar.length < 2 ^ 20
  l : ∀ l, l ∈ r.ar → l.length < 2 ^ 20
theorem ends_len {g : G} (hl : g.es.length ≤ 40) (hc : checkG g = 0) : (endsL g.es).length ≤ 2000 := by
  obtain ⟨_, h2, _⟩ := checkG_zero.1 hc
  have := endsL_len (es := g.es) fun e he => by have := h2 e he; unfold okE at this; omega
  omega
theorem rjoined_ok (g : G) (hl : g.es.length ≤ 40) : ACall Tryz.prog 66 [tG g] (.tup [tpairs (if checkG g ≠ 0 then [] else endsL g.es), tint (joinedE g)]) := by
  have hE := Ends_ok g (by omega)
  have hC := Connected_ok g (by omega)
  unfold joinedE
  by_cases hc : checkG g = 0
  · rw [if_neg (by omega)] at hE ⊢
    rw [if_neg (by omega)]
    rw [hc, decide_eq_true rfl, Bool.true_and] at hC
    generalize connB g = b at *
    generalize endsL g.es = L at *
    obtain ⟨n, es⟩ := g
    refine ACall.of_body Tryz.func66 rfl (by kernel_rfl) ?_
    simp only [entry, Tryz.ntmps66, tG]
    refine zU ?_
    cases b with
    | true =>
      rw [if_pos rfl]
      refine zR trivial (zc hE (zc hC trivial)) trivial ?_
      simp [Rets, aret, Blk.cells, ty, Tryz.results66, ares, toT1, toT, borrow, borrow0, capCell, toTree0, tint, tpairs]
    | false =>
      rw [if_neg (by simp)]
      refine zR trivial (zc hE (zc hC trivial)) trivial ?_
      simp [Rets, aret, Blk.cells, ty, Tryz.results66, ares, toT1, toT, borrow, borrow0, capCell, toTree0, tint, tpairs]
  · rw [if_pos hc] at hE ⊢
    rw [if_pos hc]
    generalize checkG g = E at *
    obtain ⟨n, es⟩ := g
    refine ACall.of_body Tryz.func66 rfl (by kernel_rfl) ?_
    simp only [entry, Tryz.ntmps66, tG]
    refine zU ?_
    refine zR (zc @hc trivial) (zc hE trivial) trivial ?_
    simp [Rets, aret, Blk.cells, ty, Tryz.results66, ares, toT1, toT, borrow, borrow0, capCell, toTree0, tint, tpairs, pRows]
theorem rchecked_ok (r : R) (hr : RSm r) : ACall Tryz.prog 49 [tR r] (.tup [tpairs (if ribE r ≠ 0 then [] else endsL r.es), tint (ribE r)]) := by
  have hJ := rjoined_ok r.g hr.es
  by_cases hj : joinedE r.g = 0
  case neg =>
    have e : ribE r = joinedE r.g := by unfold ribE; rw [if_pos hj]
    rw [e, if_pos hj]
    have hL : ∃ L, (if checkG r.g ≠ 0 then [] else endsL r.g.es) = L := ⟨_, rfl⟩
    obtain ⟨L, hL⟩ := hL
    rw [hL] at hJ
    generalize joinedE r.g = E at *
    obtain ⟨n, es, ar⟩ := r
    refine ACall.of_body Tryz.func49 rfl (by kernel_rfl) ?_
    simp only [entry, Tryz.ntmps49, tR]
    refine zU ?_
    refine zR (zc @hj trivial) (zc hJ trivial) trivial ?_
    simp [Rets, aret, Blk.cells, ty, Tryz.results49, ares, toT1, toT, borrow, borrow0, capCell, toTree0, tint, tpairs, pRows]
  have hc : checkG r.g = 0 := by
    unfold joinedE at hj
    by_cases h : checkG r.g = 0
    · exact h
    · rw [if_pos h] at hj; exact absurd hj h
  have h12 := (checkG_zero.1 hc).1
  rw [if_neg (by omega), hj] at hJ
  have hlen := ends_len (g := r.g) hr.es hc
  have hat : ∀ h, h < 2 * (endsL r.es).length → 0 ≤ atL (endsL r.es) h ∧ atL (endsL r.es) h < (r.n.toNat : Nat) := fun h hh => by
    have h12' : 1 ≤ r.n := h12.1
    have := atL_range hc hh; omega
  have hn : r.n = (r.n.toNat : Nat) := by have h12' : 1 ≤ r.n := h12.1; omega
  have hnb : r.n ≤ 12 := h12.2
  have hA := hr.ar
  have hLl := hr.l
  have eR : ribE r = if (r.ar.length : Int) ≠ r.n then 8 else chkGo (endsL r.es) (2 * (endsL r.es).length) 0 r.ar := by unfold ribE; rw [if_neg (by omega)]
  rw [eR]
  have hH := halves_ok (endsL r.es) r.n.toNat (by omega) (by have : (endsL r.es).length ≤ 2000 := hlen; omega) hat
  rw [← hn] at hH
  clear hr hj hc h12 hat eR
  obtain ⟨n, es, ar⟩ := r
  simp only [R.g] at hJ hlen hH hn hnb hA hLl ⊢
  generalize endsL es = L at *
  generalize hk : n.toNat = k at *
  subst hn
  refine ACall.of_body Tryz.func49 rfl (by kernel_rfl) ?_
  simp only [entry, Tryz.ntmps49, tR]
  refine zU ?_
  by_cases hlen2 : ar.length = k
  case neg =>
    have hI : ¬ ((ar.length : Int) = k) := by omega
    rw [if_pos hI]
    refine zR (zc @llRows_len (zc @hI trivial)) (zc hJ trivial) trivial ?_
    simp [Rets, aret, Blk.cells, ty, Tryz.results49, ares, toT1, toT, borrow, borrow0, capCell, toTree0, tint, tpairs, pRows]
  have hI : (ar.length : Int) = k := by omega
  rw [if_neg (show ¬ ((ar.length : Int) ≠ (k : Int)) by omega)]
  refine zR (zc @llRows_len (zc @hI (zc @halvesL_len trivial))) (zc hJ (zc hH trivial)) trivial ?_
  refine AWp.loopS (α:=Nat) 48 (fun i=>[(1,.c (.ptr 0 0)),(4,.c (.slice (pRows L) .none)),(29,.c (.slice (llRows (halvesL L k (2 * L.length))) .none)),(30,.c (.int .i64 (k : Int))),(31,.c (.int .i64 (i : Int)))]) (fun i=>[.box [.int .i64 (k : Int), .slice (eRows es) .none, .slice (llRows ar) .none]]) (fun i=>i ≤ k ∧ chkGo L (2 * L.length) 0 ar = chkGo L (2 * L.length) i (ar.drop i)) (fun i=>k - i) (0) (hk:=Weak.headL 1 48 [1, 4, 29, 30, 31] zW) (h0:=?_) (round:=fun i hI=>?_)
  · exact ⟨Nat.zero_le _, rfl⟩
  · obtain ⟨hi, hI2⟩ := hI
    by_cases hlt : i < k
    · have hltI : (i : Int) < k := by omega
      have hil : i < ar.length := by omega
      have e0 := List.getElem?_eq_getElem hil
      have e1 := llRows_get e0
      have e2 := llRows_get (halvesL_get (L := L) (k := 2 * L.length) hlt)
      have hd := List.drop_eq_getElem_cons hil
      have hl := hLl _ (List.getElem_mem hil)
      generalize ar[i] = l at *
      have hol := ownL_len L (i : Int) (2 * L.length)
      have hlist := list_ok l (ownL L (i : Int) (2 * L.length)) (ownL_sorted _ _ _) (by omega) (by omega)
      have hg : chkGo L (2 * L.length) i (l :: ar.drop (i + 1)) = if lstErr l (ownL L (i : Int) (2 * L.length)) ≠ 0 then lstErr l (ownL L (i : Int) (2 * L.length)) else chkGo L (2 * L.length) (i + 1) (ar.drop (i + 1)) := rfl
      rw [← hd, ← hI2] at hg
      generalize lstErr l (ownL L (i : Int) (2 * L.length)) = E at *
      by_cases hE : E = 0
      · rw [if_neg (by omega)] at hg
        subst hE
        refine zR (zc @hltI (zc @llRows_len (zc @hI (zc @e1 (zc @e2 trivial))))) (zc hlist trivial) trivial ?_
        refine ⟨i + 1,Weak.headN 1 48 [1, 4, 29, 30, 31] zW,?_,?_⟩
        · exact ⟨hlt, hg⟩
        · omega
      · rw [if_pos hE] at hg
        rw [hg, if_pos hE]
        refine zR (zc @hltI (zc @llRows_len (zc @hI (zc @e1 (zc @e2 (zc @hE trivial)))))) (zc hlist trivial) trivial ?_
        simp [Rets, aret, Blk.cells, ty, Tryz.results49, ares, toT1, toT, borrow, borrow0, capCell, toTree0, tint, tpairs, pRows]
    · have ei : i = k := by omega
      subst ei
      have hz : chkGo L (2 * L.length) 0 ar = 0 := by rw [hI2, List.drop_eq_nil_of_le (by omega)]; rfl
      have hnl : ¬ ((i : Int) < i) := by omega
      rw [hz, if_neg (by omega)]
      refine zR (zc @hnl trivial) trivial trivial ?_
      simp [Rets, aret, Blk.cells, ty, Tryz.results49, ares, toT1, toT, borrow, borrow0, capCell, toTree0, tint, tpairs]
end Go.Proofs.YtfkegnhpihoncaaGreat
set_option linter.all false
namespace Go.Proofs.YtfkegnhpihoncaaGreat
open Go.Sp
set_option linter.unusedSimpArgs false
set_option linter.unusedVariables false
set_option maxHeartbeats 4000000
set_option maxRecDepth 100000
theorem atL_app {L : List (Int × Int)} {p : Int × Int} {h : Nat} (hh : h < 2 * L.length) : atL (L ++ [p]) h = atL L h := by
  unfold atL
  rw [List.getD_eq_getElem?_getD, List.getD_eq_getElem?_getD, List.getElem?_append_left (by omega)]
theorem ownL_app {L : List (Int × Int)} {p : Int × Int} {v : Int} : ∀ {k : Nat}, k ≤ 2 * L.length → ownL (L ++ [p]) v k = ownL L v k
  | 0, _ => rfl
  | k + 1, h => by rw [ownL_succ, ownL_succ, atL_app (by omega), ownL_app (by omega)]
theorem own_deg (L : List (Int × Int)) (v : Int) : ((ownL L v (2 * L.length)).length : Int) = degL v L := by
  refine snoc_ind (P := fun L => ((ownL L v (2 * L.length)).length : Int) = degL v L) rfl ?_ L
  intro L p ih
  rw [List.length_append, List.length_singleton, show 2 * (L.length + 1) = 2 * L.length + 1 + 1 by omega, ownL_succ, ownL_succ, ownL_app (Nat.le_refl _), degL_snoc]
  have a1 : atL (L ++ [p]) (2 * L.length) = p.1 := by
    unfold atL
    rw [if_pos (by omega), show 2 * L.length / 2 = L.length by omega, List.getD_eq_getElem?_getD]; simp
  have a2 : atL (L ++ [p]) (2 * L.length + 1) = p.2 := by
    unfold atL
    rw [if_neg (by omega), show (2 * L.length + 1) / 2 = L.length by omega, List.getD_eq_getElem?_getD]; simp
  rw [a1, a2]
  unfold b2i
  by_cases h1 : p.1 = v <;> by_cases h2 : p.2 = v <;> simp [h1, h2] <;> omega
theorem own_degR {g : G} {n : Nat} (hc : checkG g = 0) (hn : g.n = n) {v : Int} (hv : 0 ≤ v ∧ v < n) : valR g.es v n + 2 * cntL g.es v v = (ownL (endsL g.es) v (2 * (endsL g.es).length)).length := by
  obtain ⟨h1, h2, h3⟩ := checkG_zero.1 hc
  rw [own_deg, valR_val hc hn hv]
  exact (degL_val (distinct_of h3) (fun x hx => by have := h2 x hx; unfold okE at this; omega) v).symm
theorem hd_iff {l own : List Int} (h : lstGo own [] l = 0) (hlen : l.length = own.length) (hs : own.Pairwise (· < ·)) : (l ≠ [] ∧ l.getD 0 0 ≠ own.getD 0 0) ↔ ∃ x, x ∈ l ∧ x < l.getD 0 0 := by
  obtain ⟨q1, q2, _⟩ := lstGo_zero h
  have q3 := sup_of q2 q1 hlen
  rw [List.pairwise_iff_getElem] at hs
  have hmin : ∀ x, x ∈ own → own.getD 0 0 ≤ x := fun x hx => by
    obtain ⟨k, hk, rfl⟩ := List.mem_iff_getElem.1 hx
    rw [List.getD_eq_getElem?_getD, List.getElem?_eq_getElem (by omega), Option.getD_some]
    by_cases e : k = 0
    · subst e; exact Int.le_refl _
    · have := hs 0 k (by omega) hk (by omega); omega
  constructor
  · rintro ⟨h1, h2⟩
    have hp : 0 < l.length := List.length_pos_iff.2 h1
    have e1 : l.getD 0 0 = l[0] := by rw [List.getD_eq_getElem?_getD, List.getElem?_eq_getElem hp]; rfl
    have e2 : own.getD 0 0 = own[0]'(by omega) := by rw [List.getD_eq_getElem?_getD, List.getElem?_eq_getElem (by omega)]; rfl
    have h3 := hmin (l.getD 0 0) (q1 _ (by rw [e1]; exact List.getElem_mem _))
    exact ⟨own.getD 0 0, q3 _ (by rw [e2]; exact List.getElem_mem _), by omega⟩
  · intro h
    obtain ⟨x, hx, hlt⟩ := h
    refine ⟨fun e => ?_, fun e => ?_⟩
    · rw [e] at hx; exact absurd hx (List.not_mem_nil)
    · have := hmin x (q1 x hx)
      omega
end Go.Proofs.YtfkegnhpihoncaaGreat
