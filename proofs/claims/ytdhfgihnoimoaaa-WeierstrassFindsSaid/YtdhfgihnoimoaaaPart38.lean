/- A part of the proof. -/
import Derived.Test.YtdhfgihnoimoaaaLayerC
import Derived.Test.YtdhfgihnoimoaaaPart37
import Derived.Test.YtdhfgihnoimoaaaPart05
set_option linter.all false
set_option maxHeartbeats 4000000
set_option maxRecDepth 100000
namespace Go.Proofs.Ytdhfgihnoimoaaa
open Go.Sp
noncomputable def rkL (n : Nat) (es : List E) (d : List Int) : Int := rkD n (mulE es) fun v => d.getD v 0
structure Dv5 (n : Nat) (es : List E) (d : List Int) : Prop where
 s : Sm5 n es
 dl : d.length = n
 db : bndL 100 d
 dd : sumD d n ≤ 5
theorem Dv5.rk {n : Nat} {es : List E} {d : List Int} (h : Dv5 n es d) : -1 ≤ rkL n es d ∧ rkL n es d ≤ 5 := by
 refine ⟨rk_low _, ?_⟩
 by_cases h0 : 0 ≤ rkL n es d
 ·have := rk_deg h.s.g.hM (by have := h.s.g.h1; omega) h0
  have h2 := h.dd
  have e : sumD d n = sumR (fun v => d.getD v 0) n := rfl
  show rkD n (mulE es) (fun v => d.getD v 0) ≤ 5
  omega
 ·omega
def winsC (n : Nat) (es : List E) (d : List Int) : Bool := winsL (mulE es) n 3000 d (List.replicate n false)
def rkC (n : Nat) (es : List E) (d : List Int) (r : Nat) : Bool := ((List.range r).all fun k => (lstD n k).all fun l => winsC n es (minL d l)) && (((lstD n r).any fun l => !winsC n es (minL d l)) || decide (sumD d n < r))
theorem winsC_ok {n : Nat} {es : List E} (g : Gok n es) (hn : n ≤ 4) (hs : sizeE es ≤ 20) {d : List Int} (hd : d.length = n) (hb : bndL 20 d) : winsC n es d = winB n es d := by
 have h1 := g.h1
 have hc : (n : Int) * (n * (n * (20 + 20))) ≤ 2560 := by
  have h2 : (n : Int) * (20 + 20) ≤ 4 * 40 := by omega
  have h3 : (n : Int) * (n * (20 + 20)) ≤ 4 * 160 := Int.mul_le_mul (by omega) h2 (Int.mul_nonneg (by omega) (by decide)) (by decide)
  have h4 : (n : Int) * (n * (n * (20 + 20))) ≤ 4 * 640 := Int.mul_le_mul (by omega) (by omega) (Int.mul_nonneg (by omega) (Int.mul_nonneg (by omega) (by decide))) (by decide)
  omega
 rw [Bool.eq_iff_iff, winB_iff]
 exact winsL_ok g.hM (by omega) hd (U := 20) (N := 20) (by decide) (by decide) (fun v _ => (hb v).2) (fun v _ => (hb v).1) (fun v _ => Int.le_trans (mulE_val g.hE v) hs) (by omega)
theorem rkC_ok {n : Nat} {es : List E} (g : Gok n es) (hn : n ≤ 4) (hs : sizeE es ≤ 20) {d : List Int} (hd : d.length = n) (hb : bndL 8 d) {r : Nat} (hr : r ≤ 8) (h : rkC n es d r = true) : rkD n (mulE es) (fun v => d.getD v 0) = (r : Int) - 1 := by
 have h1 := g.h1
 obtain ⟨m, rfl⟩ : ∃ m, n = m + 1 := ⟨n - 1, by omega⟩
 have hw : ∀ k, k ≤ 8 → ∀ l, l ∈ lstD (m + 1) k → winsC (m + 1) es (minL d l) = winB (m + 1) es (minL d l) := fun k hk l hl => winsC_ok g hn hs (by rw [minL_len]; exact hd) (bndL_mono (minL_bnd hb (C := 8) fun v => by have := lst_entry hl v; omega) (by decide))
 unfold rkC at h
 simp only [Bool.and_eq_true, Bool.or_eq_true, List.all_eq_true, List.any_eq_true, decide_eq_true_eq, Bool.not_eq_true'] at h
 obtain ⟨q1, q2⟩ := h
 refine rk_at g.hM (by omega) hd (fun k hk => ?_) ?_
 ·rw [failL_eq, List.find?_eq_none]
  intro l hl
  have := q1 k (List.mem_range.2 hk) l hl
  rw [hw k (by omega) l hl] at this
  unfold failB
  rw [this]; simp
 ·rcases q2 with ⟨l, hl, q⟩ | q
  ·left
   rw [failL_eq, List.find?_isSome]
   refine ⟨l, hl, ?_⟩
   rw [hw r hr l hl] at q
   unfold failB
   rw [q]; rfl
  ·right; exact q
def alongC (n : Nat) (es : List E) (v : Nat) (rs : List Int) : Bool := (List.range rs.length).all fun k => decide (-1 ≤ rs.getD k 0 ∧ rs.getD k 0 ≤ 7) && rkC n es (timL n v (k : Int)) (rs.getD k 0 + 1).toNat
theorem alongC_ok {n : Nat} {es : List E} (g : Gok n es) (hn : n ≤ 4) (hs : sizeE es ≤ 20) {v : Nat} (hv : v < n) {rs : List Int} (hl : rs.length ≤ 8) (h : alongC n es v rs = true) : alongL n es v rs.length = rs := by
 unfold alongC at h
 simp only [List.all_eq_true, List.mem_range, Bool.and_eq_true, decide_eq_true_eq] at h
 apply List.ext_getElem
 ·rw [alongL_len]
 ·intro k h1 h2
  obtain ⟨q1, q2⟩ := h k h2
  have := alongL_get (n := n) (es := es) (v := v) h2
  rw [List.getElem?_eq_getElem h1] at this
  rw [Option.some.inj this]
  have hr := rkC_ok g hn hs (timL_len _ _ _) (timL_bnd hv (by omega)) (by omega) q2
  unfold rkT
  rw [hr, ← getD_get_eq h2]; omega
theorem filK_ext {p q : Nat → Bool} : ∀ {n : Nat}, (∀ k, k < n → p k = q k) → filK p n = filK q n
 | 0, _ => rfl
 | n + 1, h => by
  unfold filK
  rw [h n (by omega), filK_ext fun k hk => h k (by omega)]
theorem ranksR_eq {n : Nat} {es : List E} {v N : Int} (hv : vtxE ⟨(n : Int), es⟩ v = 0) (hN : 0 ≤ N ∧ N ≤ 12) : ranksR n es v N = (alongL n es v.toNat (N.toNat + 1), 0) := by
 unfold ranksR; rw [if_neg (by omega), if_neg (by omega)]
theorem gapsR_eq {n : Nat} {es : List E} {v : Int} (hv : vtxE ⟨(n : Int), es⟩ v = 0) (hG : sizeE es - n + 1 ≤ 6) : gapsR n es v = (gapsL n es v.toNat, 0) := by
 unfold gapsR; rw [if_neg (by omega), if_neg (by omega)]
theorem weightR_eq {n : Nat} {es : List E} {v : Int} (hv : vtxE ⟨(n : Int), es⟩ v = 0) (hG : sizeE es - n + 1 ≤ 6) : weightR n es v = (wgt n es v.toNat, 0) := by
 unfold weightR; rw [gapsR_eq hv hG, if_neg (by simp)]
theorem vertsR_eq {n : Nat} {es : List E} (hj : joinedE ⟨(n : Int), es⟩ = 0) (hG : sizeE es - n + 1 ≤ 6) : vertsR n es = (filK (wvP n es) n, 0) := by
 unfold vertsR; rw [if_neg (by omega), if_neg (by omega)]
def triE : List E := [⟨0, 1, 1⟩, ⟨0, 2, 1⟩, ⟨1, 2, 1⟩]
def dubE : List E := [⟨0, 1, 2⟩, ⟨1, 2, 2⟩]
def fouE : List E := [⟨0, 1, 4⟩]
theorem tri_s : Sm5 3 triE := ⟨gok_of (by decide) (by decide +kernel) (by decide +kernel), by decide, by decide +kernel⟩
theorem dub_s : Sm5 3 dubE := ⟨gok_of (by decide) (by decide +kernel) (by decide +kernel), by decide, by decide +kernel⟩
theorem fou_s : Sm5 2 fouE := ⟨gok_of (by decide) (by decide +kernel) (by decide +kernel), by decide, by decide +kernel⟩
theorem tri_a4 : alongL 3 triE 2 4 = [0, 0, 1, 2] := alongC_ok (rs := [0, 0, 1, 2]) tri_s.g (by decide) (by decide) (by decide) (by decide) (by decide +kernel)
theorem tri_a2 (v : Nat) (hv : v < 3) : alongL 3 triE v 2 = [0, 0] := by
 have : v = 0 ∨ v = 1 ∨ v = 2 := by omega
 rcases this with rfl | rfl | rfl
 ·exact alongC_ok (rs := [0, 0]) tri_s.g (by decide) (by decide) (by decide) (by decide) (by decide +kernel)
 ·exact alongC_ok (rs := [0, 0]) tri_s.g (by decide) (by decide) (by decide) (by decide) (by decide +kernel)
 ·exact alongC_ok (rs := [0, 0]) tri_s.g (by decide) (by decide) (by decide) (by decide) (by decide +kernel)
theorem dub_a4 (v : Nat) (hv : v < 3) : alongL 3 dubE v 4 = [0, 0, 1, 1] := by
 have : v = 0 ∨ v = 1 ∨ v = 2 := by omega
 rcases this with rfl | rfl | rfl
 ·exact alongC_ok (rs := [0, 0, 1, 1]) dub_s.g (by decide) (by decide) (by decide) (by decide) (by decide +kernel)
 ·exact alongC_ok (rs := [0, 0, 1, 1]) dub_s.g (by decide) (by decide) (by decide) (by decide) (by decide +kernel)
 ·exact alongC_ok (rs := [0, 0, 1, 1]) dub_s.g (by decide) (by decide) (by decide) (by decide) (by decide +kernel)
theorem fou_a6 : alongL 2 fouE 0 6 = [0, 0, 0, 0, 1, 2] := alongC_ok (rs := [0, 0, 0, 0, 1, 2]) fou_s.g (by decide) (by decide) (by decide) (by decide) (by decide +kernel)
theorem tri_gaps (v : Nat) (hv : v < 3) : gapsL 3 triE v = [1] := by
 have : gapsL 3 triE v = gapL (alongL 3 triE v 2) 2 := rfl
 rw [this, tri_a2 v hv]; decide
theorem dub_gaps (v : Nat) (hv : v < 3) : gapsL 3 dubE v = [1, 3] := by
 have : gapsL 3 dubE v = gapL (alongL 3 dubE v 4) 4 := rfl
 rw [this, dub_a4 v hv]; decide
theorem fou_gaps : gapsL 2 fouE 0 = [1, 2, 3] := by
 have : gapsL 2 fouE 0 = gapL (alongL 2 fouE 0 6) 6 := rfl
 rw [this, fou_a6]; decide
theorem tri_wgt (v : Nat) (hv : v < 3) : wgt 3 triE v = 0 := by unfold wgt; rw [tri_gaps v hv]; decide
theorem dub_wgt (v : Nat) (hv : v < 3) : wgt 3 dubE v = 1 := by unfold wgt; rw [dub_gaps v hv]; decide
theorem tri_ver : filK (wvP 3 triE) 3 = [] := by
 rw [filK_ext (q := fun _ => false) fun k hk => by unfold wvP; rw [tri_wgt k hk]; decide]; rfl
theorem dub_ver : filK (wvP 3 dubE) 3 = [0, 1, 2] := by
 rw [filK_ext (q := fun _ => true) fun k hk => by unfold wvP; rw [dub_wgt k hk]; decide]; rfl
theorem Tri41_ok : ACall Try.prog 28 [] (tG ⟨3, triE⟩) := by
 refine ACall.of_body Try.func28 rfl (by kernel_rfl) ?_
 simp only [entry, Try.ntmps28]
 refine zU ?_
 refine zR trivial trivial trivial ?_
 simp [Rets, aret, Blk.cells, ty, Try.results28, ares, toT1, toT, borrow, borrow0, capCell, toTree0, tG, triE, eRows, eRow]
 rfl
theorem Dub41_ok : ACall Try.prog 29 [] (tG ⟨3, dubE⟩) := by
 refine ACall.of_body Try.func29 rfl (by kernel_rfl) ?_
 simp only [entry, Try.ntmps29]
 refine zU ?_
 refine zR trivial trivial trivial ?_
 simp [Rets, aret, Blk.cells, ty, Try.results29, ares, toT1, toT, borrow, borrow0, capCell, toTree0, tG, dubE, eRows, eRow]
 rfl
theorem awake41_ok : ACall Try.prog 10 [] (tbool true) := by
 have hT := Tri41_ok
 have hD := Dub41_ok
 have c1 := WRanks_ok (n := 3) (es := triE) (by decide) (fun _ => tri_s) 2 3 (by decide)
 have c2 := WGaps_ok (n := 3) (es := triE) (by decide) (fun _ => tri_s) 1
 have c3 := WVertices_ok (n := 3) (es := triE) (by decide) (fun _ => tri_s) (fun _ => by decide)
 have c4 := WGaps_ok (n := 2) (es := fouE) (by decide) (fun _ => fou_s) 0
 have c5 := WRanks_ok (n := 2) (es := fouE) (by decide) (fun _ => fou_s) 0 5 (by decide)
 have c6 := WVertices_ok (n := 3) (es := dubE) (by decide) (fun _ => dub_s) (fun _ => by decide)
 have c7 := WWeight_ok (n := 3) (es := dubE) (by decide) (fun _ => dub_s) 0
 rw [ranksR_eq (by decide +kernel) (by decide)] at c1
 rw [gapsR_eq (by decide +kernel) (by decide)] at c2
 rw [vertsR_eq (by decide +kernel) (by decide), tri_ver] at c3
 rw [gapsR_eq (by decide +kernel) (by decide)] at c4
 rw [ranksR_eq (by decide +kernel) (by decide)] at c5
 rw [vertsR_eq (by decide +kernel) (by decide), dub_ver] at c6
 rw [weightR_eq (by decide +kernel) (by decide)] at c7
 have t1 : alongL 3 triE (2 : Int).toNat ((3 : Int).toNat + 1) = [0, 0, 1, 2] := tri_a4
 have t2 : gapsL 3 triE (1 : Int).toNat = [1] := tri_gaps 1 (by decide)
 have t4 : gapsL 2 fouE (0 : Int).toNat = [1, 2, 3] := fou_gaps
 have t5 : alongL 2 fouE (0 : Int).toNat ((5 : Int).toNat + 1) = [0, 0, 0, 0, 1, 2] := fou_a6
 have t7 : wgt 3 dubE (0 : Int).toNat = 1 := dub_wgt 0 (by decide)
 rw [t1] at c1
 rw [t2] at c2
 rw [t4] at c4
 rw [t5] at c5
 rw [t7] at c7
 clear t1 t2 t4 t5 t7
 have d1 := Equal_ok [0, 0, 1, 2] [0, 0, 1, 2] (by decide) (by decide)
 have d2 := Equal_ok [1] [1] (by decide) (by decide)
 have d3 := Equal_ok [1, 2, 3] [1, 2, 3] (by decide) (by decide)
 have d4 := Equal_ok [0, 0, 0, 0, 1, 2] [0, 0, 0, 0, 1, 2] (by decide) (by decide)
 have d5 := Equal_ok [0, 1, 2] [0, 1, 2] (by decide) (by decide)
 rw [decide_eq_true rfl] at d1 d2 d3 d4 d5
 have f4 : eRows fouE = [[.int .i64 0, .int .i64 1, .int .i64 4]] := rfl
 unfold tG at hT hD c1 c2 c3 c4 c5 c6 c7
 have n3 : ((3 : Nat) : Int) = 3 := rfl
 have n2 : ((2 : Nat) : Int) = 2 := rfl
 simp only [n3, n2, f4] at c1 c2 c3 c4 c5 c6 c7
 generalize eRows triE = e1 at *
 generalize eRows dubE = e2 at *
 simp only [tints, iRows, List.map_cons, List.map_nil] at c1 c2 c3 c4 c5 c6 d1 d2 d3 d4 d5
 refine ACall.of_body Try.func10 rfl (by kernel_rfl) ?_
 simp only [entry, Try.ntmps10]
 refine zU ?_
 repeat' (first|((first|(refine zT ?_;intro K' hK')|(refine zG ?_ ?_<;>(try refine zH ?_)<;>intro hguard<;>(try exact zX)<;>try intro K' hK'))<;>((try simp +contextual only [go_sem, chunks, List.range, List.range.loop]);(repeat' first|(with_reducible refine hK' _ _ ?_;clear hK' K')|((with_reducible first|refine zK hT ?_|refine zK hD ?_|refine zK c1 ?_|refine zK c2 ?_|refine zK c3 ?_|refine zK c4 ?_|refine zK c5 ?_|refine zK c6 ?_|refine zK c7 ?_|refine zK d1 ?_|refine zK d2 ?_|refine zK d3 ?_|refine zK d4 ?_|refine zK d5 ?_);try simp +contextual only [go_sem, chunks, List.range, List.range.loop])|exact zY|with_reducible refine And.intro ?_ ?_|(with_reducible intro hpath;try exact zP)|(refine hK' _ _ ?_;clear hK' K')|fail);try refine zS ?_))|(refine zE ?_;refine hK _ _ ?_;clear hK K)|(refine zN ?_;try refine zS ?_)|refine zA ?_|(refine zB ?_;intro K hK)|(refine zC ?_ ?_<;>(try refine zH ?_)<;>intro hcond<;>try exact zX)|fail)
 simp [Rets, aret, Blk.cells, ty, Try.results10, ares, toT1, toT, borrow, borrow0, capCell, toTree0, tbool]
theorem FewRk_ok (g : G) : ACall Try.prog 27 [tG g] (tbool (smallB g 5 7)) := by
 have h := small_ok g 5 7
 generalize smallB g 5 7 = b at *
 obtain ⟨n, es⟩ := g
 refine ACall.of_body Try.func27 rfl (by kernel_rfl) ?_
 simp only [entry, Try.ntmps27, tG]
 refine zU ?_
 refine zR trivial (zc h trivial) trivial ?_
 simp [Rets, aret, Blk.cells, ty, Try.results27, ares, toT1, toT, borrow, borrow0, capCell, toTree0, tbool]
theorem Few41_ok (g : G) : ACall Try.prog 9 [tG g] (tbool (smallB g 5 7)) := by
 have h := FewRk_ok g
 generalize smallB g 5 7 = b at *
 obtain ⟨n, es⟩ := g
 refine ACall.of_body Try.func9 rfl (by kernel_rfl) ?_
 simp only [entry, Try.ntmps9, tG]
 refine zU ?_
 refine zR trivial (zc h trivial) trivial ?_
 simp [Rets, aret, Blk.cells, ty, Try.results9, ares, toT1, toT, borrow, borrow0, capCell, toTree0, tbool]
theorem small_len {g : G} {a b : Int} (h : smallB g a b = true) : g.es.length ≤ 40 := by
 unfold smallB at h
 simp only [Bool.and_eq_true, decide_eq_true_eq] at h
 exact h.1
theorem small_s5 {n : Nat} {es : List E} (h : smallB ⟨(n : Int), es⟩ 5 7 = true) (hj : joinedE ⟨(n : Int), es⟩ = 0) : Sm5 n es := by
 obtain ⟨hc, hcn⟩ := joined_zero hj
 have hl := small_len h
 unfold smallB at h
 simp only [Bool.and_eq_true, Bool.or_eq_true, decide_eq_true_eq] at h
 rcases h.2 with h2 | h2
 ·exact absurd hc h2
 ·exact ⟨gok_of hl hc hcn, by omega, by omega⟩
theorem g_nat {g : G} (hc : checkG g = 0) : g = ⟨(g.n.toNat : Int), g.es⟩ := by
 have := (checkG_zero.1 hc).1
 obtain ⟨n, es⟩ := g
 simp only at this ⊢
 rw [show ((n.toNat : Nat) : Int) = n by omega]
def low41B (g : G) : Bool := smallB g 5 7 && (decide (checkG g ≠ 0) || decide (sizeE g.es - g.n + 1 ≤ 3))
theorem low_ok (g : G) : ACall Try.prog 14 [tG g] (tbool (low41B g)) := by
 have hF := Few41_ok g
 cases hs : smallB g 5 7 with
 | false =>
  have e : low41B g = false := by unfold low41B; rw [hs]; rfl
  rw [e]
  rw [hs] at hF
  obtain ⟨n, es⟩ := g
  refine ACall.of_body Try.func14 rfl (by kernel_rfl) ?_
  simp only [entry, Try.ntmps14, tG]
  refine zU ?_
  refine zR trivial (zc hF trivial) trivial ?_
  simp [Rets, aret, Blk.cells, ty, Try.results14, ares, toT1, toT, borrow, borrow0, capCell, toTree0, tbool]
 | true =>
  have hl := small_len hs
  have hC := CheckR_ok g (by omega)
  rw [hs] at hF
  by_cases hc : checkG g = 0
  ·have hn := g_nat hc
   have e : low41B g = decide (sizeE g.es - g.n + 1 ≤ 3) := by unfold low41B; rw [hs, hc]; rfl
   rw [e]
   rw [hc] at hC
   have hG : ACall Try.prog 22 [tG g] (tint (sizeE g.es - g.n + 1)) := by
    have := Gen39_ok g.n.toNat g.es hl (by rw [← hn]; exact hc)
    rw [← hn] at this
    have hnn : ((g.n.toNat : Nat) : Int) = g.n := by have := (checkG_zero.1 hc).1; omega
    rw [hnn] at this
    exact this
   clear hn e hs hc
   generalize sizeE g.es - g.n + 1 = gg at *
   obtain ⟨n, es⟩ := g
   refine ACall.of_body Try.func14 rfl (by kernel_rfl) ?_
   simp only [entry, Try.ntmps14, tG]
   refine zU ?_
   refine zR trivial (zc hF (zc hC (zc hG trivial))) trivial ?_
   simp [Rets, aret, Blk.cells, ty, Try.results14, ares, toT1, toT, borrow, borrow0, capCell, toTree0, tbool]
  ·have e : low41B g = true := by unfold low41B; rw [hs, decide_eq_true (show checkG g ≠ 0 from hc)]; rfl
   rw [e]
   clear hs e
   generalize checkG g = er at *
   obtain ⟨n, es⟩ := g
   refine ACall.of_body Try.func14 rfl (by kernel_rfl) ?_
   simp only [entry, Try.ntmps14, tG]
   refine zU ?_
   refine zR (zc @hc trivial) (zc hF (zc hC trivial)) trivial ?_
   simp [Rets, aret, Blk.cells, ty, Try.results14, ares, toT1, toT, borrow, borrow0, capCell, toTree0, tbool]
theorem low_small {g : G} (h : low41B g = true) : smallB g 5 7 = true := by
 unfold low41B at h
 rw [Bool.and_eq_true] at h; exact h.1
theorem low_gen {g : G} (h : low41B g = true) (hc : checkG g = 0) : sizeE g.es - g.n + 1 ≤ 3 := by
 unfold low41B at h
 simp only [Bool.and_eq_true, Bool.or_eq_true, decide_eq_true_eq] at h
 rcases h.2 with h2 | h2
 ·exact absurd hc h2
 ·exact h2
theorem vtx_bad {g : G} {v : Int} (h : joinedE g ≠ 0) : vtxE g v = joinedE g := if_pos h
theorem WRanks_bad (g : G) (v N : Int) (hl : g.es.length ≤ 40) (h : joinedE g ≠ 0) : ACall Try.prog 11 [tG g, tint v, tint N] (.tup [tints [], tint (joinedE g)]) := by
 have hG := wat_ok g v hl
 rw [vtx_bad h] at hG
 generalize joinedE g = e at *
 obtain ⟨n, es⟩ := g
 refine ACall.of_body Try.func11 rfl (by kernel_rfl) ?_
 simp only [entry, Try.ntmps11, tG, tint]
 refine zU ?_
 refine zR (zc @h trivial) (zc hG trivial) trivial ?_
 simp [Rets, aret, Blk.cells, ty, Try.results11, ares, toT1, toT, borrow, borrow0, capCell, toTree0, tint, tints, iRows]
theorem RRanks_bad (g : G) (v N : Int) (hl : g.es.length ≤ 40) (h : joinedE g ≠ 0) : ACall Try.prog 12 [tG g, tint v, tint N] (.tup [tints [], tint (joinedE g)]) := by
 have hG := given41_ok g v hl
 rw [vtx_bad h] at hG
 generalize joinedE g = e at *
 obtain ⟨n, es⟩ := g
 refine ACall.of_body Try.func12 rfl (by kernel_rfl) ?_
 simp only [entry, Try.ntmps12, tG, tint]
 refine zU ?_
 refine zR (zc @h trivial) (zc hG trivial) trivial ?_
 simp [Rets, aret, Blk.cells, ty, Try.results12, ares, toT1, toT, borrow, borrow0, capCell, toTree0, tint, tints, iRows]
theorem WGaps_bad (g : G) (v : Int) (hl : g.es.length ≤ 40) (h : joinedE g ≠ 0) : ACall Try.prog 15 [tG g, tint v] (.tup [tints [], tint (joinedE g)]) := by
 have hG := wat_ok g v hl
 rw [vtx_bad h] at hG
 generalize joinedE g = e at *
 obtain ⟨n, es⟩ := g
 refine ACall.of_body Try.func15 rfl (by kernel_rfl) ?_
 simp only [entry, Try.ntmps15, tG, tint]
 refine zU ?_
 refine zR (zc @h trivial) (zc hG trivial) trivial ?_
 simp [Rets, aret, Blk.cells, ty, Try.results15, ares, toT1, toT, borrow, borrow0, capCell, toTree0, tint, tints, iRows]
theorem RGaps_bad (g : G) (v : Int) (hl : g.es.length ≤ 40) (h : joinedE g ≠ 0) : ACall Try.prog 16 [tG g, tint v] (.tup [tints [], tint (joinedE g)]) := by
 have hG := given41_ok g v hl
 rw [vtx_bad h] at hG
 generalize joinedE g = e at *
 obtain ⟨n, es⟩ := g
 refine ACall.of_body Try.func16 rfl (by kernel_rfl) ?_
 simp only [entry, Try.ntmps16, tG, tint]
 refine zU ?_
 refine zR (zc @h trivial) (zc hG trivial) trivial ?_
 simp [Rets, aret, Blk.cells, ty, Try.results16, ares, toT1, toT, borrow, borrow0, capCell, toTree0, tint, tints, iRows]
theorem WWeight_bad (g : G) (v : Int) (hl : g.es.length ≤ 40) (h : joinedE g ≠ 0) : ACall Try.prog 17 [tG g, tint v] (.tup [tint 0, tint (joinedE g)]) := by
 have hG := WGaps_bad g v hl h
 generalize joinedE g = e at *
 obtain ⟨n, es⟩ := g
 refine ACall.of_body Try.func17 rfl (by kernel_rfl) ?_
 simp only [entry, Try.ntmps17, tG, tint]
 refine zU ?_
 refine zR (zc @h trivial) (zc hG trivial) trivial ?_
 simp [Rets, aret, Blk.cells, ty, Try.results17, ares, toT1, toT, borrow, borrow0, capCell, toTree0, tint]
theorem RWeight_bad (g : G) (v : Int) (hl : g.es.length ≤ 40) (h : joinedE g ≠ 0) : ACall Try.prog 18 [tG g, tint v] (.tup [tint 0, tint (joinedE g)]) := by
 have hG := RGaps_bad g v hl h
 generalize joinedE g = e at *
 obtain ⟨n, es⟩ := g
 refine ACall.of_body Try.func18 rfl (by kernel_rfl) ?_
 simp only [entry, Try.ntmps18, tG, tint]
 refine zU ?_
 refine zR (zc @h trivial) (zc hG trivial) trivial ?_
 simp [Rets, aret, Blk.cells, ty, Try.results18, ares, toT1, toT, borrow, borrow0, capCell, toTree0, tint]
theorem WVertices_bad (g : G) (hl : g.es.length ≤ 40) (h : joinedE g ≠ 0) : ACall Try.prog 19 [tG g] (.tup [tints [], tint (joinedE g)]) := by
 have hG := wgiven_ok g hl
 generalize joinedE g = e at *
 obtain ⟨n, es⟩ := g
 refine ACall.of_body Try.func19 rfl (by kernel_rfl) ?_
 simp only [entry, Try.ntmps19, tG]
 refine zU ?_
 refine zR (zc @h trivial) (zc hG trivial) trivial ?_
 simp [Rets, aret, Blk.cells, ty, Try.results19, ares, toT1, toT, borrow, borrow0, capCell, toTree0, tint, tints, iRows]
theorem RVertices_bad (g : G) (hl : g.es.length ≤ 40) (h : joinedE g ≠ 0) : ACall Try.prog 20 [tG g] (.tup [tints [], tint (joinedE g)]) := by
 have hG := refJoined_ok g hl
 generalize joinedE g = e at *
 obtain ⟨n, es⟩ := g
 refine ACall.of_body Try.func20 rfl (by kernel_rfl) ?_
 simp only [entry, Try.ntmps20, tG]
 refine zU ?_
 refine zR (zc @h trivial) (zc hG trivial) trivial ?_
 simp [Rets, aret, Blk.cells, ty, Try.results20, ares, toT1, toT, borrow, borrow0, capCell, toTree0, tint, tints, iRows]
theorem ranks_pair (g : G) (v N : Int) (hs : smallB g 5 7 = true) (hN : N ≤ 11 ∨ 12 < N) : ∃ L e, L.length < 2 ^ 40 ∧ ACall Try.prog 11 [tG g, tint v, tint N] (.tup [tints L, tint e]) ∧ ACall Try.prog 12 [tG g, tint v, tint N] (.tup [tints L, tint e]) := by
 have hl := small_len hs
 by_cases h : joinedE g = 0
 ·have hn := g_nat (joined_zero h).1
  generalize g.n.toNat = n at *
  generalize g.es = es at *
  subst hn
  refine ⟨_, _, ?_, WRanks_ok hl (small_s5 hs) v N hN, RRanks_ok hl (small_s5 hs) v N hN⟩
  unfold ranksR
  split
  ·show 0 < 2 ^ 40; decide
  ·split
   ·show 0 < 2 ^ 40; decide
   ·show (alongL _ _ _ _).length < _
    rw [alongL_len]; omega
 ·exact ⟨[], _, by show 0 < 2 ^ 40; decide, WRanks_bad g v N hl h, RRanks_bad g v N hl h⟩
theorem gaps_pair (g : G) (v : Int) (hs : smallB g 5 7 = true) : ∃ L e w f, L.length < 2 ^ 40 ∧ ACall Try.prog 15 [tG g, tint v] (.tup [tints L, tint e]) ∧ ACall Try.prog 16 [tG g, tint v] (.tup [tints L, tint e]) ∧
  ACall Try.prog 17 [tG g, tint v] (.tup [tint w, tint f]) ∧ ACall Try.prog 18 [tG g, tint v] (.tup [tint w, tint f]) := by
 have hl := small_len hs
 by_cases h : joinedE g = 0
 ·have hn := g_nat (joined_zero h).1
  generalize g.n.toNat = n at *
  generalize g.es = es at *
  subst hn
  refine ⟨_, _, _, _, ?_, WGaps_ok hl (small_s5 hs) v, RGaps_ok hl (small_s5 hs) v, WWeight_ok hl (small_s5 hs) v, RWeight_ok hl (small_s5 hs) v⟩
  unfold gapsR
  split
  ·show 0 < 2 ^ 40; decide
  ·split
   ·show 0 < 2 ^ 40; decide
   ·have := (gapsL_bnd (n := n) (es := es) (v := v.toNat) (by omega)).1
    show (gapsL _ _ _).length < _
    omega
 ·exact ⟨[], _, 0, _, by show 0 < 2 ^ 40; decide, WGaps_bad g v hl h, RGaps_bad g v hl h, WWeight_bad g v hl h, RWeight_bad g v hl h⟩
theorem verts_pair (g : G) (hs : low41B g = true) : ∃ L e, L.length < 2 ^ 40 ∧ ACall Try.prog 19 [tG g] (.tup [tints L, tint e]) ∧ ACall Try.prog 20 [tG g] (.tup [tints L, tint e]) := by
 have hs5 := low_small hs
 have hl := small_len hs5
 by_cases h : joinedE g = 0
 ·have hn := g_nat (joined_zero h).1
  have hg := low_gen hs (joined_zero h).1
  generalize hnn : g.n.toNat = n at *
  generalize g.es = es at *
  subst hn
  refine ⟨_, _, ?_, WVertices_ok hl (small_s5 hs5) (fun _ => by simp only at hg; omega), RVertices_ok hl (small_s5 hs5)⟩
  have h5 := (small_s5 hs5 h).n5
  unfold vertsR
  split
  ·show 0 < 2 ^ 40; decide
  ·split
   ·show 0 < 2 ^ 40; decide
   ·have := filK_len (wvP n es) n
    show (filK _ _).length < _
    omega
 ·exact ⟨[], _, by show 0 < 2 ^ 40; decide, WVertices_bad g hl h, RVertices_bad g hl h⟩
end Go.Proofs.Ytdhfgihnoimoaaa
