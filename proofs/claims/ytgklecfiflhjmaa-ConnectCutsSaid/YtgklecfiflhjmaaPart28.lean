/- A part of the proof. -/
import Derived.Test.YtgklecfiflhjmaaPart22
import Derived.Test.YtgklecfiflhjmaaPart25
import Derived.Test.YtgklecfiflhjmaaPart27
import Derived.Test.YtgklecfiflhjmaaPart11
import Derived.Test.YtgklecfiflhjmaaPart13
import Derived.Test.YtgklecfiflhjmaaPart14
import Derived.Test.YtgklecfiflhjmaaLayerC
set_option linter.all false
set_option maxHeartbeats 4000000
set_option maxRecDepth 100000
namespace Go.Proofs.Ytgklecfiflhjmaa
open Go.Sp
def restN (set : List Int) (n : Nat) : List Nat := (List.range n).filter fun v => !decide ((v : Int) ∈ set)
theorem restN_succ (set : List Int) (n : Nat) : restN set (n + 1) = if (n : Int) ∈ set then restN set n else restN set n ++ [n] := by
 unfold restN
 rw [List.range_succ, List.filter_append]
 by_cases h : (n : Int) ∈ set <;> simp [h]
theorem restN_len (set : List Int) (n : Nat) : (restN set n).length ≤ n := by unfold restN; exact Nat.le_trans (List.length_filter_le _ _) (by simp)
theorem rest_ok (g : G) (n : Nat) (set : List Int) (hn : g.n = n) (hn12 : n ≤ 12) (hl : set.length < 2 ^ 40) : ACall Try.prog 62 [tG g, tints set] (tints (zI (restN set n))) := by
 have hH := fun v => Holds_ok set v hl
 obtain ⟨nI, es⟩ := g
 simp only at hn
 subst hn
 refine ACall.of_body Try.func62 rfl (by kernel_rfl) ?_
 simp only [entry, Try.ntmps62, tG, tints]
 refine zU ?_
 refine zR trivial trivial trivial ?_
 refine AWp.weak (Weak.opens ((fun t f => [f, f, f, f, f, t, f, f, f, f, f, f, f, f, f, f, f, f, f, f, f, f]) true false) 1 (by first | omega | simp)) ?_
 simp only [openS, openV, List.length_cons, List.length_nil, List.length_append, Nat.reduceAdd, List.cons_append, List.nil_append]
 refine AWp.loopS (α:=Nat) 22 (fun v=>[(1,.c (.slice (iRows set) .none)),(2,.c (.ptr 0 0)),(5,.c (.slice (iRows (zI (restN set v))) (.chain 1))),(6,.c (.int .i64 (v : Int)))]) (fun v=>[.box [.int .i64 (n : Int), .slice (eRows es) .none], .chain (restN set v).length 1]) (fun v=>v ≤ n) (fun v=>n - v) (0) (hk:=Weak.headL 2 22 [1, 2, 5, 6] zW) (h0:=?_) (round:=fun v hI=>?_)
 ·exact Nat.zero_le _
 ·have hv : v ≤ n := hI
  clear hI
  by_cases hvl : v < n
  ·have hvI : (v : Int) < (n : Int) := by omega
   have hHv := hH (v : Int)
   have hs := restN_succ set v
   have hrl := restN_len set v
   by_cases hm : (v : Int) ∈ set
   ·rw [if_pos hm] at hs
    rw [decide_eq_true hm] at hHv
    repeat' (first|((first|(refine zT ?_;intro K' hK')|(refine zG ?_ ?_<;>(try refine zH ?_)<;>intro hguard<;>(try exact zX)<;>try intro K' hK'))<;>((try simp +contextual only [go_sem, hvI, iRows_len, zI_len]);(repeat' first|(with_reducible refine hK' _ _ ?_;clear hK' K')|(with_reducible refine zK hHv ?_;try simp +contextual only [go_sem, hvI, iRows_len, zI_len])|exact zY|with_reducible refine And.intro ?_ ?_|(with_reducible intro hpath;try exact zP)|(refine hK' _ _ ?_;clear hK' K')|fail);try refine zS ?_))|(refine zE ?_;refine hK _ _ ?_;clear hK K)|(refine zN ?_;try refine zS ?_)|refine zA ?_|(refine zB ?_;intro K hK)|(refine zC ?_ ?_<;>(try refine zH ?_)<;>intro hcond<;>try exact zX)|fail)
    rw [← hs]
    refine ⟨v + 1,Weak.headN 2 22 [1, 2, 5, 6] zW,?_,?_⟩
    ·exact hvl
    ·omega
   ·rw [if_neg hm] at hs
    rw [decide_eq_false hm] at hHv
    have hzs := zI_snoc (restN set v) v
    rw [← hs] at hzs
    have hln : (restN set (v + 1)).length = (restN set v).length + 1 := by rw [hs]; simp
    generalize restN set v = d at *
    repeat' (first|((first|(refine zT ?_;intro K' hK')|(refine zG ?_ ?_<;>(try refine zH ?_)<;>intro hguard<;>(try exact zX)<;>try intro K' hK'))<;>((try simp +contextual only [go_sem, hvI, iRows_len, iRows_snoc, zI_len, Int.toNat_natCast, chunks, List.range, List.range.loop]);(repeat' first|(with_reducible refine hK' _ _ ?_;clear hK' K')|(with_reducible refine zK hHv ?_;try simp +contextual only [go_sem, hvI, iRows_len, iRows_snoc, zI_len, Int.toNat_natCast, chunks, List.range, List.range.loop])|(with_reducible exact iRows_k' (by assumption))|exact zY|with_reducible refine And.intro ?_ ?_|(with_reducible intro hpath;try exact zP)|(refine hK' _ _ ?_;clear hK' K')|fail);try refine zS ?_))|(refine zE ?_;refine hK _ _ ?_;clear hK K)|(refine zN ?_;try refine zS ?_)|refine zA ?_|(refine zB ?_;intro K hK)|(refine zC ?_ ?_<;>(try refine zH ?_)<;>intro hcond<;>try exact zX)|fail)
    rw [hzs]
    refine ⟨v + 1,Weak.headF 2 22 [1, 2, 5, 6] (zc @hln trivial) zW,?_,?_⟩
    ·exact hvl
    ·omega
  ·have hnl : ¬ (v : Int) < (n : Int) := by omega
   have ev : v = n := by omega
   subst ev
   refine zR (zc @hnl trivial) trivial trivial ?_
   simp [Rets, aret, Blk.cells, ty, Try.results62, ares, toT1, toT, borrow, borrow0, capCell, toTree0, tints]
theorem zI_sorted {l : List Nat} (h : l.Pairwise (· < ·)) : (zI l).Pairwise (· < ·) := by
 unfold zI; rw [List.pairwise_map]; exact h.imp fun h => by omega
theorem inR_get (set : List Int) (neg : Bool) {n v : Nat} (h : v < n) : (inR set neg n).getD v false = xor neg (decide ((v : Int) ∈ set)) := by
 unfold inR
 rw [List.getD_eq_getElem?_getD, inK_get set neg n h, decide_eq_true h, Bool.true_and]; rfl
theorem ind_set {g : G} {n : Nat} (hc : checkG g = 0) (hn : g.n = n) {set : List Int} (hr : ∀ x, x ∈ set → 0 ≤ x ∧ x < n) : IndS g n set (inR set false n) := by
 refine ⟨hc, hn, hr, fun v hv => ?_⟩
 rw [inR_get set false hv, Bool.false_xor, decide_eq_true_eq]
theorem ind_rest {g : G} {n : Nat} (hc : checkG g = 0) (hn : g.n = n) (set : List Int) : IndS g n (zI (restN set n)) (inR set true n) := by
 refine ⟨hc, hn, fun x hx => ?_, fun v hv => ?_⟩
 ·obtain ⟨a, ha, rfl⟩ := List.mem_map.1 hx
  unfold restN at ha
  rw [List.mem_filter, List.mem_range] at ha
  omega
 ·rw [inR_get set true hv, Bool.true_xor]
  unfold zI restN
  rw [List.mem_map]
  constructor
  ·intro h
   exact ⟨v, by rw [List.mem_filter, List.mem_range]; exact ⟨hv, h⟩, rfl⟩
  ·rintro ⟨a, ha, e⟩
   have : a = v := by omega
   subst this
   exact (List.mem_filter.1 ha).2
def indJ (g : G) (l : List Int) : G := ⟨l.length, joinE (pairF g.es l) l.length l.length⟩
theorem bond_eq {g : G} {n : Nat} (hc : checkG g = 0) (hn : g.n = n) {set : List Int} (hr : ∀ x, x ∈ set → 0 ≤ x ∧ x < n) (hs : set.Pairwise (· < ·)) (hl : set.length ≤ 12) :
  bondB g set = (connB g && (decide (set ≠ []) && connB (indJ g set)) && (decide (zI (restN set n) ≠ []) && connB (indJ g (zI (restN set n))))) := by
 have h12 := (checkG_zero.1 hc).1
 have hnn : g.n.toNat = n := by omega
 unfold bondB
 rw [hnn, (ind_set hc hn hr).whole hs hl, (ind_rest hc hn set).whole (zI_sorted (List.pairwise_lt_range.filter _)) (by rw [zI_len]; have := restN_len set n; omega)]
 have hcnt := cparts_count hc hn
 have : decide ((partsV (genS (pairsE g.es)).1 n).length = 1) = connB g := by
  unfold connB
  rw [hnn]
  exact decide_eq_decide.2 (by omega)
 rw [this]; rfl
theorem IsBond_ok (g : G) (n : Nat) (set : List Int) (hc : checkG g = 0) (hn : g.n = n) (hn6 : n ≤ 6) (hes : g.es.length ≤ 40) (hr : ∀ x, x ∈ set → 0 ≤ x ∧ x < n) (hs : set.Pairwise (· < ·)) (hl : set.length ≤ n) :
  ACall Try.prog 24 [tG g, tints set] (tbool (bondB g set)) := by
 rw [bond_eq hc hn hr hs (by omega)]
 have hRs := rest_ok g n set hn (by omega) (by omega)
 have hCn := refConn_ok g hes hc
 have hI1 := InducedR_ok g set (by omega) (by omega)
 have hrl : (zI (restN set n)).length ≤ n := by rw [zI_len]; exact restN_len set n
 have hI2 := InducedR_ok g (zI (restN set n)) (by omega) (by omega)
 have hsq : ∀ k : Nat, k ≤ n → k * k ≤ 36 := fun k hk => Nat.le_trans (Nat.mul_le_mul hk hk) (Nat.le_trans (Nat.mul_le_mul hn6 hn6) (by decide))
 have hC1 := fun h => refConn_ok (indJ g set) (Nat.le_trans (joinE_len _ _ _) (by have := hsq _ hl; omega)) ((ind_set hc hn hr).check h (by omega))
 have hC2 := fun h => refConn_ok (indJ g (zI (restN set n))) (Nat.le_trans (joinE_len _ _ _) (by have := hsq _ hrl; omega)) ((ind_rest hc hn set).check h (by omega))
 change ACall _ _ _ (tG (indJ g set)) at hI1
 change ACall _ _ _ (tG (indJ g (zI (restN set n)))) at hI2
 generalize connB (indJ g set) = x at *
 generalize connB (indJ g (zI (restN set n))) = y at *
 generalize indJ g set = G1 at *
 generalize indJ g (zI (restN set n)) = G2 at *
 generalize zI (restN set n) = other at *
 generalize connB g = cb at *
 obtain ⟨nI, es⟩ := g
 obtain ⟨n1, es1⟩ := G1
 obtain ⟨n2, es2⟩ := G2
 refine ACall.of_body Try.func24 rfl (by kernel_rfl) ?_
 simp only [entry, Try.ntmps24, tG, tints]
 refine zU ?_
 cases cb
 ·
  refine zR (zc @iRows_len trivial) (zc hRs (zc hCn trivial)) trivial ?_
  simp [Rets, aret, Blk.cells, ty, Try.results24, ares, toT1, toT, borrow, borrow0, capCell, toTree0, tbool]
 by_cases h1 : set = []
 ·subst h1
  have e1 : ([] : List Int).length = 0 := rfl
  repeat' (first|((first|(refine zT ?_;intro K' hK')|(refine zG ?_ ?_<;>(try refine zH ?_)<;>intro hguard<;>(try exact zX)<;>try intro K' hK'))<;>((try simp +contextual only [go_sem, iRows_len, e1]);(repeat' first|(with_reducible refine hK' _ _ ?_;clear hK' K')|((with_reducible first|refine zK hRs ?_|refine zK hCn ?_);try simp +contextual only [go_sem, iRows_len, e1])|exact zY|with_reducible refine And.intro ?_ ?_|(with_reducible intro hpath;try exact zP)|(refine hK' _ _ ?_;clear hK' K')|fail);try refine zS ?_))|(refine zE ?_;refine hK _ _ ?_;clear hK K)|(refine zN ?_;try refine zS ?_)|refine zA ?_|(refine zB ?_;intro K hK)|(refine zC ?_ ?_<;>(try refine zH ?_)<;>intro hcond<;>try exact zX)|fail)
  simp [Rets, aret, Blk.cells, ty, Try.results24, ares, toT1, toT, borrow, borrow0, capCell, toTree0, tbool]
 have h1I : ¬ (set.length : Int) = 0 := by have := List.length_pos_iff.2 h1; omega
 by_cases h2 : other = []
 ·subst h2
  have e1 : ([] : List Int).length = 0 := rfl
  repeat' (first|((first|(refine zT ?_;intro K' hK')|(refine zG ?_ ?_<;>(try refine zH ?_)<;>intro hguard<;>(try exact zX)<;>try intro K' hK'))<;>((try simp +contextual only [go_sem, iRows_len, e1, h1I]);(repeat' first|(with_reducible refine hK' _ _ ?_;clear hK' K')|((with_reducible first|refine zK hRs ?_|refine zK hCn ?_);try simp +contextual only [go_sem, iRows_len, e1, h1I])|exact zY|with_reducible refine And.intro ?_ ?_|(with_reducible intro hpath;try exact zP)|(refine hK' _ _ ?_;clear hK' K')|fail);try refine zS ?_))|(refine zE ?_;refine hK _ _ ?_;clear hK K)|(refine zN ?_;try refine zS ?_)|refine zA ?_|(refine zB ?_;intro K hK)|(refine zC ?_ ?_<;>(try refine zH ?_)<;>intro hcond<;>try exact zX)|fail)
  simp [Rets, aret, Blk.cells, ty, Try.results24, ares, toT1, toT, borrow, borrow0, capCell, toTree0, tbool]
 have h2I : ¬ (other.length : Int) = 0 := by have := List.length_pos_iff.2 h2; omega
 have hC1 := hC1 h1
 have hC2 := hC2 h2
 rw [decide_eq_true h1, decide_eq_true h2, Bool.true_and, Bool.true_and, Bool.true_and]
 cases x
 ·
  refine zR (zc @iRows_len (zc @h1I (zc @h2I trivial))) (zc hRs (zc hCn (zc hI1 (zc hC1 trivial)))) trivial ?_
  simp [Rets, aret, Blk.cells, ty, Try.results24, ares, toT1, toT, borrow, borrow0, capCell, toTree0, tbool]
 ·cases y
  ·
   refine zR (zc @iRows_len (zc @h1I (zc @h2I trivial))) (zc hRs (zc hCn (zc hI1 (zc hC1 (zc hI2 (zc hC2 trivial)))))) trivial ?_
   simp [Rets, aret, Blk.cells, ty, Try.results24, ares, toT1, toT, borrow, borrow0, capCell, toTree0, tbool]
  ·
   refine zR (zc @iRows_len (zc @h1I (zc @h2I trivial))) (zc hRs (zc hCn (zc hI1 (zc hC1 (zc hI2 (zc hC2 trivial)))))) trivial ?_
   simp [Rets, aret, Blk.cells, ty, Try.results24, ares, toT1, toT, borrow, borrow0, capCell, toTree0, tbool]
theorem Least_law (g : G) (l : List Int) : ACall Try.prog 5 [tG g, tints l] (tbool true) := by
 have hF := FewG_ok g
 have hA := cawake_ok
 by_cases hf : smallB g 6 9 = true
 case neg =>
  rw [Bool.not_eq_true] at hf
  rw [hf] at hF
  obtain ⟨n, es⟩ := g
  refine ACall.of_body Try.func5 rfl (by kernel_rfl) ?_
  simp only [entry, Try.ntmps5, tG, tints]
  refine zU ?_
  refine zR trivial (zc hF (zc hA trivial)) trivial ?_
  simp [Rets, aret, Blk.cells, ty, Try.results5, ares, toT1, toT, borrow, borrow0, capCell, toTree0, tbool]
 rw [hf] at hF
 have hfw := few_of hf
 have hes := hfw.es
 by_cases hl60 : 60 < l.length
 ·have hl60I : (60 : Int) < (l.length : Int) := by omega
  obtain ⟨n, es⟩ := g
  refine ACall.of_body Try.func5 rfl (by kernel_rfl) ?_
  simp only [entry, Try.ntmps5, tG, tints]
  refine zU ?_
  refine zR (zc @iRows_len (zc @hl60I trivial)) (zc hF (zc hA trivial)) trivial ?_
  simp [Rets, aret, Blk.cells, ty, Try.results5, ares, toT1, toT, borrow, borrow0, capCell, toTree0, tbool]
 have hl60I : ¬ (60 : Int) < (l.length : Int) := by omega
 have hCk := CheckR_ok g (by omega)
 have hB := Bond_ok g l hes (by omega)
 have hCo := Connectivity_ok g hes
 by_cases hc : checkG g = 0
 case neg =>
  have he : subG g l = checkG g := by unfold subG; rw [if_pos hc]
  have he2 : connE g = checkG g := by unfold connE; rw [if_pos hc]
  rw [he, decide_eq_false hc, Bool.false_and] at hB
  rw [he2, if_pos hc, if_pos hc] at hCo
  generalize checkG g = E at *
  obtain ⟨n, es⟩ := g
  have e0 : ([] : List Int).length = 0 := rfl
  refine ACall.of_body Try.func5 rfl (by kernel_rfl) ?_
  simp only [entry, Try.ntmps5, tG, tints]
  refine zU ?_
  refine zR (zc @iRows_len (zc @hl60I (zc @hc (zc @e0 trivial)))) (zc hF (zc hA (zc hCk (zc hB (zc hCo trivial))))) trivial ?_
  simp [Rets, aret, Blk.cells, ty, Try.results5, ares, toT1, toT, borrow, borrow0, capCell, toTree0, tbool]
 have h12 := (checkG_zero.1 hc).1
 have hsz := hfw.sz hc
 obtain ⟨n, hn⟩ : ∃ n : Nat, g.n = n := ⟨g.n.toNat, by omega⟩
 have hSb := SubsetR_ok g l (by omega)
 have he : subG g l = subE g.n none l := by unfold subG; rw [if_neg (by omega)]
 rw [he] at hB
 have hRf := refConnectivity_ok g n hc hn hes
 have hnn : g.n.toNat = n := by omega
 have he2 : connE g = if g.n = 1 then 14 else 0 := by unfold connE; rw [if_neg (by omega)]
 rw [he2, hnn] at hCo
 rw [hc] at hCk
 have hsl := (connW_bound (es := g.es) (fun e he => by have := (checkG_zero.1 hc).2.1 e he; unfold okE at this; omega) n (2 ^ n - 1)).2.2
 have hEq := Equal_ok (zI (connW n g.es (2 ^ n - 1)).2) (zI (connW n g.es (2 ^ n - 1)).2) (by rw [zI_len]; omega) (by rw [zI_len]; omega)
 rw [decide_eq_true rfl] at hEq
 have hIB : subE g.n none l = 0 → ACall Try.prog 24 [tG g, tints l] (tbool (bondB g l)) := fun h0 => by
  have hfa := subE_facts h0
  have hll := subE_len0 (by omega) h0
  exact IsBond_ok g n l hc hn (by omega) hes (fun x hx => by have := hfa.1 x hx; omega) hfa.2.1 (by omega)
 generalize connW n g.es (2 ^ n - 1) = s at *
 obtain ⟨least, best⟩ := s
 simp only at hCo hRf hEq
 generalize zI best = bi at *
 have e0 : ([] : List Int).length = 0 := rfl
 by_cases h1 : g.n = 1
 ·rw [if_pos h1, if_pos (by decide), if_pos (by decide)] at hCo
  by_cases h0 : subE g.n none l = 0
  case neg =>
   rw [decide_eq_false h0, Bool.false_and] at hB
   generalize subE g.n none l = E at *
   obtain ⟨nI, es⟩ := g
   simp only at h1
   subst h1
   refine ACall.of_body Try.func5 rfl (by kernel_rfl) ?_
   simp only [entry, Try.ntmps5, tG, tints]
   refine zU ?_
   repeat' (first|((first|(refine zT ?_;intro K' hK')|(refine zG ?_ ?_<;>(try refine zH ?_)<;>intro hguard<;>(try exact zX)<;>try intro K' hK'))<;>((try simp +contextual only [go_sem, iRows_len, hl60I, e0, h0]);(repeat' first|(with_reducible refine hK' _ _ ?_;clear hK' K')|((with_reducible first|refine zK hF ?_|refine zK hA ?_|refine zK hCk ?_|refine zK hB ?_|refine zK hCo ?_|refine zK hSb ?_);try simp +contextual only [go_sem, iRows_len, hl60I, e0, h0])|exact zY|with_reducible refine And.intro ?_ ?_|(with_reducible intro hpath;try exact zP)|(refine hK' _ _ ?_;clear hK' K')|fail);try refine zS ?_))|(refine zE ?_;refine hK _ _ ?_;clear hK K)|(refine zN ?_;try refine zS ?_)|refine zA ?_|(refine zB ?_;intro K hK)|(refine zC ?_ ?_<;>(try refine zH ?_)<;>intro hcond<;>try exact zX)|fail)
   simp [Rets, aret, Blk.cells, ty, Try.results5, ares, toT1, toT, borrow, borrow0, capCell, toTree0, tbool]
  have hIB := hIB h0
  rw [decide_eq_true h0, Bool.true_and, h0] at hB
  rw [h0] at hSb
  generalize bondB g l = b at *
  obtain ⟨nI, es⟩ := g
  simp only at h1
  subst h1
  refine ACall.of_body Try.func5 rfl (by kernel_rfl) ?_
  simp only [entry, Try.ntmps5, tG, tints]
  refine zU ?_
  cases b
  ·
   repeat' (first|((first|(refine zT ?_;intro K' hK')|(refine zG ?_ ?_<;>(try refine zH ?_)<;>intro hguard<;>(try exact zX)<;>try intro K' hK'))<;>((try simp +contextual only [go_sem, iRows_len, hl60I, e0]);(repeat' first|(with_reducible refine hK' _ _ ?_;clear hK' K')|((with_reducible first|refine zK hF ?_|refine zK hA ?_|refine zK hCk ?_|refine zK hB ?_|refine zK hCo ?_|refine zK hSb ?_|refine zK hIB ?_);try simp +contextual only [go_sem, iRows_len, hl60I, e0])|exact zY|with_reducible refine And.intro ?_ ?_|(with_reducible intro hpath;try exact zP)|(refine hK' _ _ ?_;clear hK' K')|fail);try refine zS ?_))|(refine zE ?_;refine hK _ _ ?_;clear hK K)|(refine zN ?_;try refine zS ?_)|refine zA ?_|(refine zB ?_;intro K hK)|(refine zC ?_ ?_<;>(try refine zH ?_)<;>intro hcond<;>try exact zX)|fail)
   simp [Rets, aret, Blk.cells, ty, Try.results5, ares, toT1, toT, borrow, borrow0, capCell, toTree0, tbool]
  ·
   repeat' (first|((first|(refine zT ?_;intro K' hK')|(refine zG ?_ ?_<;>(try refine zH ?_)<;>intro hguard<;>(try exact zX)<;>try intro K' hK'))<;>((try simp +contextual only [go_sem, iRows_len, hl60I, e0]);(repeat' first|(with_reducible refine hK' _ _ ?_;clear hK' K')|((with_reducible first|refine zK hF ?_|refine zK hA ?_|refine zK hCk ?_|refine zK hB ?_|refine zK hCo ?_|refine zK hSb ?_|refine zK hIB ?_);try simp +contextual only [go_sem, iRows_len, hl60I, e0])|exact zY|with_reducible refine And.intro ?_ ?_|(with_reducible intro hpath;try exact zP)|(refine hK' _ _ ?_;clear hK' K')|fail);try refine zS ?_))|(refine zE ?_;refine hK _ _ ?_;clear hK K)|(refine zN ?_;try refine zS ?_)|refine zA ?_|(refine zB ?_;intro K hK)|(refine zC ?_ ?_<;>(try refine zH ?_)<;>intro hcond<;>try exact zX)|fail)
   simp [Rets, aret, Blk.cells, ty, Try.results5, ares, toT1, toT, borrow, borrow0, capCell, toTree0, tbool]
 ·rw [if_neg h1, if_neg (by decide), if_neg (by decide)] at hCo
  by_cases h0 : subE g.n none l = 0
  case neg =>
   rw [decide_eq_false h0, Bool.false_and] at hB
   generalize subE g.n none l = E at *
   obtain ⟨nI, es⟩ := g
   simp only at h1
   refine ACall.of_body Try.func5 rfl (by kernel_rfl) ?_
   simp only [entry, Try.ntmps5, tG, tints]
   refine zU ?_
   repeat' (first|((first|(refine zT ?_;intro K' hK')|(refine zG ?_ ?_<;>(try refine zH ?_)<;>intro hguard<;>(try exact zX)<;>try intro K' hK'))<;>((try simp +contextual only [go_sem, iRows_len, hl60I, e0, h0, h1]);(repeat' first|(with_reducible refine hK' _ _ ?_;clear hK' K')|((with_reducible first|refine zK hF ?_|refine zK hA ?_|refine zK hCk ?_|refine zK hB ?_|refine zK hCo ?_|refine zK hSb ?_|refine zK hRf ?_|refine zK hEq ?_);try simp +contextual only [go_sem, iRows_len, hl60I, e0, h0, h1])|exact zY|with_reducible refine And.intro ?_ ?_|(with_reducible intro hpath;try exact zP)|(refine hK' _ _ ?_;clear hK' K')|fail);try refine zS ?_))|(refine zE ?_;refine hK _ _ ?_;clear hK K)|(refine zN ?_;try refine zS ?_)|refine zA ?_|(refine zB ?_;intro K hK)|(refine zC ?_ ?_<;>(try refine zH ?_)<;>intro hcond<;>try exact zX)|fail)
   simp [Rets, aret, Blk.cells, ty, Try.results5, ares, toT1, toT, borrow, borrow0, capCell, toTree0, tbool]
  have hIB := hIB h0
  rw [decide_eq_true h0, Bool.true_and, h0] at hB
  rw [h0] at hSb
  generalize bondB g l = b at *
  obtain ⟨nI, es⟩ := g
  simp only at h1
  refine ACall.of_body Try.func5 rfl (by kernel_rfl) ?_
  simp only [entry, Try.ntmps5, tG, tints]
  refine zU ?_
  cases b
  ·
   repeat' (first|((first|(refine zT ?_;intro K' hK')|(refine zG ?_ ?_<;>(try refine zH ?_)<;>intro hguard<;>(try exact zX)<;>try intro K' hK'))<;>((try simp +contextual only [go_sem, iRows_len, hl60I, e0, h1]);(repeat' first|(with_reducible refine hK' _ _ ?_;clear hK' K')|((with_reducible first|refine zK hF ?_|refine zK hA ?_|refine zK hCk ?_|refine zK hB ?_|refine zK hCo ?_|refine zK hSb ?_|refine zK hIB ?_|refine zK hRf ?_|refine zK hEq ?_);try simp +contextual only [go_sem, iRows_len, hl60I, e0, h1])|exact zY|with_reducible refine And.intro ?_ ?_|(with_reducible intro hpath;try exact zP)|(refine hK' _ _ ?_;clear hK' K')|fail);try refine zS ?_))|(refine zE ?_;refine hK _ _ ?_;clear hK K)|(refine zN ?_;try refine zS ?_)|refine zA ?_|(refine zB ?_;intro K hK)|(refine zC ?_ ?_<;>(try refine zH ?_)<;>intro hcond<;>try exact zX)|fail)
   simp [Rets, aret, Blk.cells, ty, Try.results5, ares, toT1, toT, borrow, borrow0, capCell, toTree0, tbool]
  ·
   repeat' (first|((first|(refine zT ?_;intro K' hK')|(refine zG ?_ ?_<;>(try refine zH ?_)<;>intro hguard<;>(try exact zX)<;>try intro K' hK'))<;>((try simp +contextual only [go_sem, iRows_len, hl60I, e0, h1]);(repeat' first|(with_reducible refine hK' _ _ ?_;clear hK' K')|((with_reducible first|refine zK hF ?_|refine zK hA ?_|refine zK hCk ?_|refine zK hB ?_|refine zK hCo ?_|refine zK hSb ?_|refine zK hIB ?_|refine zK hRf ?_|refine zK hEq ?_);try simp +contextual only [go_sem, iRows_len, hl60I, e0, h1])|exact zY|with_reducible refine And.intro ?_ ?_|(with_reducible intro hpath;try exact zP)|(refine hK' _ _ ?_;clear hK' K')|fail);try refine zS ?_))|(refine zE ?_;refine hK _ _ ?_;clear hK K)|(refine zN ?_;try refine zS ?_)|refine zA ?_|(refine zB ?_;intro K hK)|(refine zC ?_ ?_<;>(try refine zH ?_)<;>intro hcond<;>try exact zX)|fail)
   simp [Rets, aret, Blk.cells, ty, Try.results5, ares, toT1, toT, borrow, borrow0, capCell, toTree0, tbool]
def cutE : Bool → Bool → Int → Int
 | true, true, _ => 0
 | false, false, _ => 0
 | _, _, m => m
theorem cutE_same (x : Bool) (m : Int) : cutE x x m = 0 := by cases x <;> rfl
theorem cutE_diff {x y : Bool} (h : x ≠ y) (m : Int) : cutE x y m = m := by cases x <;> cases y <;> first | rfl | exact absurd rfl h
theorem cutE_nn (x y : Bool) {m : Int} (h : 1 ≤ m) : 0 ≤ cutE x y m := by cases x <;> cases y <;> simp only [cutE] <;> omega
def cutP (p : Nat → Bool) : List E → Int
 | [] => 0
 | e :: es => cutE (p e.a.toNat) (p e.b.toNat) e.m + cutP p es
theorem cutW_P (w : Nat) : ∀ es : List E, cutW w es = cutP (fun v => decide (bitN w v = 1)) es
 | [] => rfl
 | e :: es => by
  simp only [cutW, cutP, cutW_P w es]
  have h1 := bitN_le w e.a.toNat
  have h2 := bitN_le w e.b.toNat
  by_cases h : bitN w e.a.toNat = bitN w e.b.toNat
  ·rw [if_pos h, show decide (bitN w e.a.toNat = 1) = decide (bitN w e.b.toNat = 1) from decide_eq_decide.2 (by omega), cutE_same]
  ·rw [if_neg h, cutE_diff]
   intro q
   have := decide_eq_decide.1 q
   omega
theorem cutP_congr {p q : Nat → Bool} : ∀ {es : List E}, (∀ e, e ∈ es → p e.a.toNat = q e.a.toNat ∧ p e.b.toNat = q e.b.toNat) → cutP p es = cutP q es
 | [], _ => rfl
 | e :: es, h => by
  obtain ⟨h1, h2⟩ := h e (by simp)
  have ih := cutP_congr (p := p) (q := q) (es := es) fun x hx => h x (List.mem_cons_of_mem _ hx)
  simp only [cutP]; rw [h1, h2, ih]
theorem cutP_not (p : Nat → Bool) : ∀ es : List E, cutP (fun v => !p v) es = cutP p es
 | [] => rfl
 | e :: es => by
  simp only [cutP, cutP_not p es]
  congr 1
  cases p e.a.toNat <;> cases p e.b.toNat <;> rfl
theorem cutP_nonneg {p : Nat → Bool} : ∀ {es : List E}, (∀ e, e ∈ es → 1 ≤ e.m) → 0 ≤ cutP p es
 | [], _ => Int.le_refl _
 | e :: es, h => by
  have h1 := cutE_nn (p e.a.toNat) (p e.b.toNat) (h e (by simp))
  have h2 := cutP_nonneg (p := p) (es := es) fun x hx => h x (List.mem_cons_of_mem _ hx)
  simp only [cutP]; omega
theorem cutP_pos {p : Nat → Bool} : ∀ {es : List E}, (∀ e, e ∈ es → 1 ≤ e.m) → (∃ e, e ∈ es ∧ p e.a.toNat ≠ p e.b.toNat) → 0 < cutP p es
 | [], _, ⟨e, he, _⟩ => by cases he
 | x :: es, h, ⟨e, he, hp⟩ => by
  have h1 := h x (by simp)
  have h2 := cutP_nonneg (p := p) (es := es) fun y hy => h y (List.mem_cons_of_mem _ hy)
  have h3 := cutE_nn (p x.a.toNat) (p x.b.toNat) h1
  simp only [cutP]
  rcases List.mem_cons.1 he with rfl | he
  ·rw [cutE_diff hp]; omega
  ·have := cutP_pos (p := p) (es := es) (fun y hy => h y (List.mem_cons_of_mem _ hy)) ⟨e, he, hp⟩
   omega
theorem cutP_zero {p : Nat → Bool} : ∀ {es : List E}, (∀ e, e ∈ es → p e.a.toNat = p e.b.toNat) → cutP p es = 0
 | [], _ => rfl
 | e :: es, h => by
  simp only [cutP]
  rw [h e (by simp), cutE_same, cutP_zero fun x hx => h x (List.mem_cons_of_mem _ hx)]; rfl
theorem cutP_split {p a b : Nat → Bool} : ∀ {es : List E}, (∀ v, p v = (a v || b v)) → (∀ v, (a v && b v) = false) → (∀ e, e ∈ es → ¬ (a e.a.toNat = true ∧ b e.b.toNat = true) ∧ ¬ (b e.a.toNat = true ∧ a e.b.toNat = true)) → cutP p es = cutP a es + cutP b es
 | [], _, _, _ => rfl
 | e :: es, h1, h2, h3 => by
  have ih := cutP_split (es := es) h1 h2 fun x hx => h3 x (List.mem_cons_of_mem _ hx)
  obtain ⟨n1, n2⟩ := h3 e (by simp)
  have a2 := h2 e.a.toNat
  have b2 := h2 e.b.toNat
  simp only [cutP]
  rw [ih, h1 e.a.toNat, h1 e.b.toNat]
  have key : cutE (a e.a.toNat || b e.a.toNat) (a e.b.toNat || b e.b.toNat) e.m = cutE (a e.a.toNat) (a e.b.toNat) e.m + cutE (b e.a.toNat) (b e.b.toNat) e.m := by
   generalize a e.a.toNat = aa at *
   generalize a e.b.toNat = ab at *
   generalize b e.a.toNat = ba at *
   generalize b e.b.toNat = bb at *
   cases aa <;> cases ab <;> cases ba <;> cases bb <;> simp [cutE] at *
  rw [key]; omega
def maskP (p : Nat → Bool) : Nat → Nat
 | 0 => 0
 | n + 1 => (if p n = true then 2 ^ n else 0) + maskP p n
theorem maskP_lt (p : Nat → Bool) : ∀ n, maskP p n < 2 ^ n
 | 0 => by simp [maskP]
 | n + 1 => by
  have := maskP_lt p n
  unfold maskP
  rw [Nat.pow_succ]
  split <;> omega
theorem bitN_test (w v : Nat) : bitN w v = 1 ↔ w.testBit v = true := by
 unfold bitN
 rw [Nat.testBit_eq_decide_div_mod_eq, decide_eq_true_eq]
theorem maskP_test (p : Nat → Bool) : ∀ n v, v < n → (maskP p n).testBit v = p v
 | 0, v, h => by omega
 | n + 1, v, h => by
  have hl := maskP_lt p n
  unfold maskP
  by_cases e : v = n
  ·subst e
   cases hp : p v with
   | true => rw [if_pos rfl, Nat.testBit_two_pow_add_eq, Nat.testBit_lt_two_pow hl]; rfl
   | false => rw [if_neg (by simp), Nat.zero_add, Nat.testBit_lt_two_pow hl]
  ·have ih := maskP_test p n v (by omega)
   split
   ·rw [Nat.testBit_two_pow_add_gt (by omega), ih]
   ·rw [Nat.zero_add, ih]
theorem maskP_odd (p : Nat → Bool) {n : Nat} (hn : 0 < n) (h0 : p 0 = true) : maskP p n % 2 = 1 := by
 have := maskP_test p n 0 hn
 rw [h0, Nat.testBit_eq_decide_div_mod_eq, decide_eq_true_eq] at this
 simpa using this
theorem full_bits {n w : Nat} (hw : w < 2 ^ n) (h : ∀ v, v < n → w.testBit v = true) : w = 2 ^ n - 1 := by
 refine Nat.eq_of_testBit_eq fun i => ?_
 rw [Nat.testBit_two_pow_sub_one]
 by_cases hi : i < n
 ·rw [h i hi, decide_eq_true hi]
 ·rw [decide_eq_false hi]
  exact Nat.testBit_lt_two_pow (Nat.lt_of_lt_of_le hw (Nat.pow_le_pow_right (by omega) (by omega)))
theorem connW_best {n : Nat} {es : List E} (hm : ∀ e, e ∈ es → 1 ≤ e.m ∧ e.m ≤ 50) : ∀ k, 2 ≤ k → ∃ w, w % 2 = 1 ∧ w < k ∧ connW n es k = (cutW w es, setN n w) ∧ ∀ w', w' % 2 = 1 → w' < k → cutW w es ≤ cutW w' es := by
 intro k
 induction k with
 | zero => intro h; omega
 | succ k ih =>
  intro hk
  by_cases h2 : k = 1
  ·subst h2
   refine ⟨1, rfl, by omega, ?_, fun w' h1 h2 => by have : w' = 1 := by omega
                                                    subst this; omega⟩
   have h1 : connW n es 1 = (-1, []) := by unfold connW; rfl
   rw [connW_succ, h1]
   unfold connStep
   simp
  ·obtain ⟨w, w1, w2, w3, w4⟩ := ih (by omega)
   have hb := cutW_bound hm w
   rw [connW_succ, w3]
   unfold connStep
   simp only
   by_cases he : k % 2 = 0
   ·rw [if_pos he]
    exact ⟨w, w1, by omega, rfl, fun w' h1 h2 => w4 w' h1 (by omega)⟩
   ·rw [if_neg he]
    have stay : cutW w es ≤ cutW k es → ∃ w0, w0 % 2 = 1 ∧ w0 < k + 1 ∧ ((cutW w es, setN n w) : Int × List Nat) = (cutW w0 es, setN n w0) ∧ ∀ w', w' % 2 = 1 → w' < k + 1 → cutW w0 es ≤ cutW w' es := fun hle => ⟨w, w1, by omega, rfl, fun w' h1 h2 => by
     by_cases e : w' = k
     ·subst e; exact hle
     ·exact w4 w' h1 (by omega)⟩
    by_cases c1 : 0 ≤ cutW w es ∧ cutW w es < cutW k es
    ·rw [if_pos c1]; exact stay (by omega)
    ·rw [if_neg c1]
     have hle : cutW k es ≤ cutW w es := Int.not_lt.1 fun q => c1 ⟨hb.1, q⟩
     by_cases c2 : cutW k es < cutW w es ∨ cutW w es < 0 ∨ cmpLL (zI (setN n k)) (zI (setN n w)) < 0
     ·rw [if_pos c2]
      refine ⟨k, by clear c2; omega, Nat.lt_succ_self k, rfl, fun w' h1 h2 => ?_⟩
      by_cases e : w' = k
      ·rw [e]; exact Int.le_refl _
      ·exact Int.le_trans hle (w4 w' h1 (by clear c2; omega))
     ·rw [if_neg c2]
      exact stay (Int.not_lt.1 fun q => c2 (.inl q))
structure MinC (g : G) (n : Nat) (w : Nat) : Prop where
 c : checkG g = 0
 n' : g.n = n
 n2 : 2 ≤ n
 odd : w % 2 = 1
 lt : w < 2 ^ n - 1
 eq : connW n g.es (2 ^ n - 1) = (cutW w g.es, setN n w)
 mn : ∀ w', w' % 2 = 1 → w' < 2 ^ n - 1 → cutW w g.es ≤ cutW w' g.es
section
variable {g : G} {n w : Nat}
theorem MinC.m (h : MinC g n w) : ∀ e, e ∈ g.es → 1 ≤ e.m := fun e he => by
 have := (checkG_zero.1 h.c).2.1 e he; unfold okE at this; omega
theorem MinC.rng (h : MinC g n w) : ∀ e, e ∈ g.es → e.a.toNat < n ∧ e.b.toNat < n ∧ e.a = (e.a.toNat : Int) ∧ e.b = (e.b.toNat : Int) := fun e he => by
 have := (checkG_zero.1 h.c).2.1 e he; have := h.n'; unfold okE at *; omega
theorem MinC.least (h : MinC g n w) {p : Nat → Bool} {u v : Nat} (hu : u < n) (hv : v < n) (pu : p u = true) (pv : p v = false) : cutW w g.es ≤ cutP p g.es := by
 have key : ∀ p : Nat → Bool, p 0 = true → (∃ v, v < n ∧ p v = false) → cutW w g.es ≤ cutP p g.es := fun p h0 ⟨v, hv, pv⟩ => by
  have ho := maskP_odd p (n := n) (by have := h.n2; omega) h0
  have hlt := maskP_lt p n
  have hne : maskP p n ≠ 2 ^ n - 1 := fun e => by
   have h1 := maskP_test p n v hv
   rw [e, Nat.testBit_two_pow_sub_one, decide_eq_true hv, pv] at h1
   cases h1
  have := h.mn (maskP p n) ho (by omega)
  rw [cutW_P (maskP p n)] at this
  rw [cutP_congr (q := p) fun e he => ?_] at this
  ·exact this
  ·obtain ⟨r1, r2, _⟩ := h.rng e he
   have t1 := maskP_test p n _ r1
   have t2 := maskP_test p n _ r2
   constructor
   ·rw [← t1]; exact (Bool.eq_iff_iff.2 (by rw [decide_eq_true_eq]; exact bitN_test _ _))
   ·rw [← t2]; exact (Bool.eq_iff_iff.2 (by rw [decide_eq_true_eq]; exact bitN_test _ _))
 cases h0 : p 0 with
 | true => exact key p h0 ⟨v, hv, pv⟩
 | false =>
  rw [← cutP_not]
  exact key _ (by simp [h0]) ⟨u, hu, by simp [pu]⟩
theorem cross_edge {l : List (Int × Int)} {p : Nat → Bool} {u v : Nat} (hc : Conn l u v) (pu : p u = true) (pv : p v = false) : ∃ a b : Nat, ((a : Int), (b : Int)) ∈ l ∧ p a ≠ p b := by
 induction hc with
 | refl => rw [pu] at pv; cases pv
 | step hc hs ih =>
  rename_i b c
  cases hb : p b with
  | false => exact ih hb
  | true =>
   rcases hs with hs | hs
   ·exact ⟨b, c, hs, by rw [hb, pv]; simp⟩
   ·exact ⟨c, b, hs, by rw [hb, pv]; simp⟩
theorem MinC.cut_pos (h : MinC g n w) (hcn : connB g = true) {p : Nat → Bool} {u v : Nat} (hu : u < n) (hv : v < n) (pu : p u = true) (pv : p v = false) : 0 < cutP p g.es := by
 obtain ⟨a, b, hab, hp⟩ := cross_edge ((connB_iff h.c h.n').1 hcn u v hu hv) pu pv
 obtain ⟨e, he, hee⟩ := endsL_mem hab
 have e1 := congrArg Prod.fst hee
 have e2 := congrArg Prod.snd hee
 simp only at e1 e2
 refine cutP_pos h.m ⟨e, he, ?_⟩
 rw [← e1, ← e2]; simpa using hp
theorem MinC.zero_bit (h : MinC g n w) : ∃ v, v < n ∧ decide (bitN w v = 1) = false := by
 refine Classical.byContradiction fun hx => ?_
 have := full_bits (n := n) (w := w) (by have := h.lt; omega) fun v hv => by
  refine (bitN_test w v).1 (Classical.byContradiction fun q => hx ⟨v, hv, decide_eq_false q⟩)
 have := h.lt
 omega
theorem MinC.bit0 (h : MinC g n w) : bitN w 0 = 1 := by unfold bitN; simpa using h.odd
theorem MinC.pos_iff (h : MinC g n w) : connB g = decide (0 < cutW w g.es) := by
 have hn2 := h.n2
 rw [Bool.eq_iff_iff, decide_eq_true_eq]
 constructor
 ·intro hcn
  obtain ⟨v, hv, pv⟩ := h.zero_bit
  rw [cutW_P]
  exact h.cut_pos hcn (u := 0) (by omega) hv (decide_eq_true h.bit0) pv
 ·intro hpos
  refine (connB_iff h.c h.n').2 ?_
  have h0 : ∀ v, v < n → Conn (endsL g.es) 0 v := fun v hv => by
   refine Classical.byContradiction fun hn => ?_
   classical
   have hle := h.least (p := fun x => decide (Conn (endsL g.es) 0 x)) (u := 0) (v := v) (by omega) hv (decide_eq_true .refl) (decide_eq_false hn)
   rw [cutP_zero fun e he => ?_] at hle
   ·omega
   ·obtain ⟨r1, r2, r3, r4⟩ := h.rng e he
    have hm : ((e.a.toNat : Int), (e.b.toNat : Int)) ∈ endsL g.es := by
     rw [← r3, ← r4]
     exact List.mem_flatMap.2 ⟨e, he, List.mem_replicate.2 ⟨by have := h.m e he; omega, rfl⟩⟩
    refine decide_eq_decide.2 ⟨fun hc => hc.step (.inl hm), fun hc => hc.step (.inr hm)⟩
  intro u v hu hv
  exact (h0 u hu).symm.trans (h0 v hv)
theorem MinC.side (h : MinC g n w) (hcn : connB g = true) {R : List Bool} (hcut : cutP (fun v => R.getD v false) g.es = cutW w g.es) (ht : ∃ v, v < n ∧ R.getD v false = true) (hf : ∃ v, v < n ∧ R.getD v false = false) : wholeB g.es n R = true := by
 refine (whole_iff h.c h.n' R).2 ⟨ht, fun u x hu hx ru rx => ?_⟩
 refine Classical.byContradiction fun hn => ?_
 obtain ⟨v, hv, pv⟩ := hf
 classical
 let a : Nat → Bool := fun y => R.getD y false && decide (Conn (wP g.es R) u y)
 let b : Nat → Bool := fun y => R.getD y false && !decide (Conn (wP g.es R) u y)
 have hsp := cutP_split (p := fun v => R.getD v false) (a := a) (b := b) (es := g.es) (fun y => by
   show R.getD y false = (R.getD y false && decide (Conn (wP g.es R) u y) || R.getD y false && !decide (Conn (wP g.es R) u y))
   cases R.getD y false <;> cases decide (Conn (wP g.es R) u y) <;> rfl) (fun y => by
   show ((R.getD y false && decide (Conn (wP g.es R) u y)) && (R.getD y false && !decide (Conn (wP g.es R) u y))) = false
   cases R.getD y false <;> cases decide (Conn (wP g.es R) u y) <;> rfl) (fun e he => by
   obtain ⟨r1, r2, r3, r4⟩ := h.rng e he
   have key : ∀ (ra : R.getD e.a.toNat false = true) (rb : R.getD e.b.toNat false = true), ((e.a.toNat : Int), (e.b.toNat : Int)) ∈ wP g.es R := fun ra rb =>
    wP_mem.2 ⟨⟨e, he, by rw [← r3, ← r4]⟩, by rw [Int.toNat_natCast]; exact ra, by rw [Int.toNat_natCast]; exact rb⟩
   constructor
   ·rintro ⟨q1, q2⟩
    simp only [a, b, Bool.and_eq_true, Bool.not_eq_true', decide_eq_true_eq, decide_eq_false_iff_not] at q1 q2
    exact q2.2 (q1.2.step (.inl (key q1.1 q2.1)))
   ·rintro ⟨q1, q2⟩
    simp only [a, b, Bool.and_eq_true, Bool.not_eq_true', decide_eq_true_eq, decide_eq_false_iff_not] at q1 q2
    exact q1.2 (q2.2.step (.inr (key q1.1 q2.1))))
 have hau : a u = true := by show (R.getD u false && decide (Conn (wP g.es R) u u)) = true; rw [ru, decide_eq_true .refl]; rfl
 have hav : a v = false := by show (R.getD v false && _) = false; rw [pv]; rfl
 have hbx : b x = true := by show (R.getD x false && !decide (Conn (wP g.es R) u x)) = true; rw [rx, decide_eq_false hn]; rfl
 have hbv : b v = false := by show (R.getD v false && _) = false; rw [pv]; rfl
 have h1 := h.least (p := a) hu hv hau hav
 have h2 := h.cut_pos hcn (p := b) hx hv hbx hbv
 omega
end
end Go.Proofs.Ytgklecfiflhjmaa
