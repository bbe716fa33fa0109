/- A part of the proof. -/
import Derived.Test.YtfkegnhpihoncaaGreatPart40
import Derived.Test.YtfkegnhpihoncaaGreatLayerC
import Derived.Test.YtfkegnhpihoncaaGreatPart33
set_option linter.all false
set_option maxHeartbeats 4000000
set_option maxRecDepth 100000
namespace Go.Proofs.YtfkegnhpihoncaaGreat
open Go.Sp
section
variable {N : Nat} {f : Nat → Nat}
theorem of_spec (hp : PermN N f) {x : Nat} (hx : x < N) : ∃ (i m : Nat), ofN f N N x = (i : Int) ∧ (leadsL f N N)[i]? = some m ∧ x ∈ faceF f N m := by
 obtain ⟨m, hm1, hl, hxm, _⟩ := lead_of hp hx
 have hmem : faceF f N m ∈ facesN f N N := List.mem_map.2 ⟨m, leadsL_mem.2 ⟨by omega, hl⟩, rfl⟩
 unfold ofN
 cases hf : (facesN f N N).findIdx? (fun l => decide (x ∈ l)) with
 | none =>
  rw [List.findIdx?_eq_none_iff] at hf
  have := hf _ hmem
  simp only [decide_eq_false_iff_not] at this
  exact absurd hxm this
 | some i =>
  obtain ⟨hi, h1, _⟩ := List.findIdx?_eq_some_iff_getElem.1 hf
  rw [decide_eq_true_eq] at h1
  have hi2 : i < (leadsL f N N).length := by unfold facesN at hi; rwa [List.length_map] at hi
  have e : (facesN f N N)[i]? = some (faceF f N (leadsL f N N)[i]) := by unfold facesN; rw [List.getElem?_map, List.getElem?_eq_getElem hi2]; rfl
  rw [List.getElem?_eq_getElem hi] at e
  rw [Option.some.inj e] at h1
  exact ⟨i, _, rfl, List.getElem?_eq_getElem hi2, h1⟩
theorem leads_nodup : (leadsL f N N).Nodup := List.nodup_range.filter _
theorem lead_at {i m : Nat} (h : (leadsL f N N)[i]? = some m) : m < N ∧ leadB f N m = true := leadsL_mem.1 (List.mem_of_getElem? h)
theorem lead_idx {i j m : Nat} (h1 : (leadsL f N N)[i]? = some m) (h2 : (leadsL f N N)[j]? = some m) : i = j := by
 obtain ⟨a1, b1⟩ := List.getElem?_eq_some_iff.1 h1
 obtain ⟨a2, b2⟩ := List.getElem?_eq_some_iff.1 h2
 exact nodup_at leads_nodup a1 a2 (by rw [b1, b2])
theorem of_mem (hp : PermN N f) {i m x : Nat} (h : (leadsL f N N)[i]? = some m) : x ∈ faceF f N m ↔ x < N ∧ ofN f N N x = (i : Int) := by
 have hm := lead_at h
 constructor
 ·intro hx
  have hxl := face_lt hp hm.1 hx
  obtain ⟨j, k, e1, e2, e3⟩ := of_spec hp hxl
  have hk := lead_at e2
  have := lead_unique hp hm.1 hk.1 hm.2 hk.2 hx e3
  subst this
  have := lead_idx h e2
  subst this
  exact ⟨hxl, e1⟩
 ·rintro ⟨hxl, e⟩
  obtain ⟨j, k, e1, e2, e3⟩ := of_spec hp hxl
  have : i = j := by omega
  subst this
  rw [h] at e2
  cases e2
  exact e3
theorem of_same (hp : PermN N f) {x y : Nat} (hx : x < N) (hy : y < N) : ofN f N N x = ofN f N N y ↔ cycR f x y := by
 obtain ⟨i, m, e1, e2, e3⟩ := of_spec hp hx
 have hm := lead_at e2
 rw [e1]
 constructor
 ·intro h
  have h2 := (of_mem hp e2).2 ⟨hy, h.symm⟩
  have h3 := face_trans hp hx (face_symm hp hm.1 e3) h2
  exact (face_mem hp hx).1 h3
 ·intro h
  have h2 := face_trans hp hm.1 e3 ((face_mem hp hx).2 h)
  exact ((of_mem hp e2).1 h2).2.symm
theorem of_bnd (hp : PermN N f) {x : Nat} (hx : x < N) : 0 ≤ ofN f N N x ∧ ofN f N N x < ((facesN f N N).length : Int) := by
 obtain ⟨i, m, e1, e2, e3⟩ := of_spec hp hx
 have := (List.getElem?_eq_some_iff.1 e2).1
 unfold facesN
 rw [List.length_map, e1]; omega
theorem cyc_step (hp : PermN N f) {x : Nat} (hx : x < N) : ofN f N N (f x) = ofN f N N x := ((of_same hp hx (hp.lt x hx)).2 ⟨1, rfl⟩).symm
end
theorem ncls_all {n : Nat} {R : Nat → Nat → Prop} (h0 : 0 < n) (h : ∀ x y, x < n → y < n → R x y) : ncls n R = 1 := by
 rw [ncls_congr (S := fun x y => (fun _ : Nat => 0) x = (fun _ : Nat => 0) y) fun x y hx hy => ⟨fun _ => rfl, fun _ => h x y hx hy⟩]
 exact ncls_onto _ (fun x _ => by omega) fun v hv => ⟨0, h0, by omega⟩
theorem same_cyc {r : R} (hr : ROk r) {x y : Nat} (hx : x < 2 * (endsL r.es).length) (hy : y < 2 * (endsL r.es).length) (hg : gR (endsL r.es) x = gR (endsL r.es) y) : cycR (sR (endsL r.es) r.ar) x y := by
 have ax := atL_range hr.c hx
 have ay := atL_range hr.c hy
 have hat : atL (endsL r.es) x = atL (endsL r.es) y := by unfold gR at hg; omega
 obtain ⟨l, q1, q2, q3, q4⟩ := hr.row hx
 refine row_cyc q3.nd (fun z hz => ?_) q4 (q3.sup _ (ownL_mem.2 ⟨by omega, by omega, by rw [Int.toNat_natCast]; exact hat.symm⟩))
 have hz2 := ownL_mem.1 (q3.sub _ hz)
 rw [Int.toNat_natCast] at hz2
 have hzl : z < 2 * (endsL r.es).length := by omega
 have hzn := hr.next hzl
 have : nextR (endsL r.es) r.ar z = nextI l (z : Int) := by unfold nextR; rw [hz2.2.2, q2]
 unfold sR
 rw [← this]; omega
def numN (J : List (Int × Int)) (e : Nat) : Nat := ((List.range J.length).filter fun f => decide (ltN J f e)).length
section
variable {J : List (Int × Int)}
theorem num_lt {e : Nat} (he : e < J.length) : numN J e < J.length := by
 obtain ⟨zs, hz⟩ := nord_ex J
 have hm : e ∈ zs := hz.p.mem_iff.2 (List.mem_range.2 he)
 obtain ⟨i, hi, rfl⟩ := List.getElem_of_mem hm
 have := hz.pos (List.getElem?_eq_getElem hi)
 unfold numN
 rw [this, ← hz.len]; exact hi
theorem num_at {zs : List Nat} (hz : NOrd J zs) {e : Nat} (he : e < J.length) : zs[numN J e]? = some e := by
 have hm : e ∈ zs := hz.p.mem_iff.2 (List.mem_range.2 he)
 obtain ⟨i, hi, rfl⟩ := List.getElem_of_mem hm
 have e0 := List.getElem?_eq_getElem hi
 have := hz.pos e0
 unfold numN
 rw [this]; exact e0
theorem num_inj {e f : Nat} (he : e < J.length) (hf : f < J.length) (h : numN J e = numN J f) : e = f := by
 obtain ⟨zs, hz⟩ := nord_ex J
 have h1 := num_at hz he
 have h2 := num_at hz hf
 rw [h, h2] at h1
 exact (Option.some.inj h1).symm
def twB (o : Nat → Int) (x : Nat) : Bool := decide (o (oppH x) < o x ∨ (o x = o (oppH x) ∧ x % 2 = 1))
def dH (J : List (Int × Int)) (o : Nat → Int) (x : Nat) : Nat := 2 * numN J (x / 2) + (if twB o x then 1 else 0)
theorem tw_opp (o : Nat → Int) (x : Nat) : twB o (oppH x) = !twB o x := by
 unfold twB
 rw [Bool.eq_iff_iff, Bool.not_eq_true', decide_eq_true_eq, decide_eq_false_iff_not, oppH_opp]
 have : oppH x % 2 = 1 - x % 2 := by unfold oppH; omega
 omega
theorem opp_half (x : Nat) : oppH x / 2 = x / 2 := by unfold oppH; omega
theorem dH_half (o : Nat → Int) (x : Nat) : dH J o x / 2 = numN J (x / 2) := by unfold dH; split <;> omega
theorem dH_mod (o : Nat → Int) (x : Nat) : dH J o x % 2 = if twB o x then 1 else 0 := by unfold dH; split <;> omega
theorem dH_opp (o : Nat → Int) (x : Nat) : dH J o (oppH x) = oppH (dH J o x) := by
 unfold dH
 rw [tw_opp, opp_half]
 unfold oppH
 cases twB o x <;> simp <;> omega
theorem dH_lt (o : Nat → Int) {x : Nat} (hx : x < 2 * J.length) : dH J o x < 2 * J.length := by
 have := num_lt (J := J) (e := x / 2) (by omega)
 unfold dH; split <;> omega
theorem dH_inj (o : Nat → Int) {x y : Nat} (hx : x < 2 * J.length) (hy : y < 2 * J.length) (h : dH J o x = dH J o y) : x = y := by
 have h1 := dH_half (J := J) o x
 have h2 := dH_half (J := J) o y
 have he := num_inj (J := J) (e := x / 2) (f := y / 2) (by omega) (by omega) (by rw [← h1, ← h2, h])
 by_cases hxy : x = y
 ·exact hxy
 ·have hop : y = oppH x := by unfold oppH; omega
  have m1 := dH_mod (J := J) o x
  have m2 := dH_mod (J := J) o y
  rw [hop, tw_opp, ← hop, ← h, m1] at m2
  cases hb : twB o x <;> rw [hb] at m2 <;> simp at m2
theorem dH_perm (o : Nat → Int) : PermN (2 * J.length) (dH J o) := ⟨fun x hx => dH_lt o hx, fun x y hx hy e => dH_inj o hx hy e⟩
theorem dH_onto (o : Nat → Int) {y : Nat} (hy : y < 2 * J.length) : ∃ x, x < 2 * J.length ∧ dH J o x = y := by
 have h := (perm_range (dH_perm (J := J) o)).mem_iff.2 (List.mem_range.2 hy)
 obtain ⟨x, hx, e⟩ := List.mem_map.1 h
 exact ⟨x, List.mem_range.1 hx, e⟩
theorem at_dual {o : Nat → Int} {L : List (Int × Int)} {zs : List Nat} (hz : NOrd J zs) (hL : L = zs.map fun e => nrmP (J.getD e (0, 0))) (hJ : ∀ e, e < J.length → J[e]? = some (o (2 * e), o (2 * e + 1))) {x : Nat} (hx : x < 2 * J.length) :
  atL L (dH J o x) = o x := by
 have he : x / 2 < J.length := by omega
 have h1 := num_at hz he
 have h2 : L[numN J (x / 2)]? = some (nrmP (o (2 * (x / 2)), o (2 * (x / 2) + 1))) := by
  rw [hL, List.getElem?_map, h1, Option.map_some, List.getD_eq_getElem?_getD, hJ _ he]; rfl
 have h3 : L.getD (dH J o x / 2) (0, 0) = nrmP (o (2 * (x / 2)), o (2 * (x / 2) + 1)) := by
  rw [dH_half, List.getD_eq_getElem?_getD, h2]; rfl
 unfold atL
 rw [h3, dH_mod]
 have hxx : x = 2 * (x / 2) ∨ x = 2 * (x / 2) + 1 := by omega
 have ho : oppH (2 * (x / 2)) = 2 * (x / 2) + 1 := by unfold oppH; omega
 have ho2 : oppH (2 * (x / 2) + 1) = 2 * (x / 2) := by unfold oppH; omega
 unfold nrmP twB
 simp only
 generalize x / 2 = e at *
 rcases hxx with hxx | hxx <;> subst hxx
 ·rw [ho]
  by_cases c : o (2 * e + 1) < o (2 * e) ∨ o (2 * e) = o (2 * e + 1) ∧ 2 * e % 2 = 1
  ·rw [decide_eq_true c]
   simp only [if_true]
   rw [if_neg (by omega)]; omega
  ·rw [decide_eq_false c]
   simp only [Bool.false_eq_true, if_false, if_true]
   omega
 ·rw [ho2]
  by_cases c : o (2 * e) < o (2 * e + 1) ∨ o (2 * e + 1) = o (2 * e) ∧ (2 * e + 1) % 2 = 1
  ·rw [decide_eq_true c]
   simp only [if_true]
   rw [if_neg (by omega)]; omega
  ·rw [decide_eq_false c]
   simp only [Bool.false_eq_true, if_false, if_true]
   omega
end
def smallB (g : G) (a b : Int) : Bool := decide (g.es.length ≤ 40) && (decide (checkG g ≠ 0) || (decide (g.n ≤ a) && decide (((endsL g.es).length : Int) ≤ b)))
theorem small_ok (g : G) (a b : Int) : ACall Tryz.prog 84 [tG g, tint a, tint b] (tbool (smallB g a b)) := by
 refine ACall.of_body Tryz.func84 rfl (by kernel_rfl) ?_
 simp only [entry, Tryz.ntmps84, tG, tint]
 refine zU ?_
 by_cases hl : g.es.length ≤ 40
 ·by_cases hc : checkG g = 0
  ·have hs := sm_of (g := g) (by omega) hc
   have e : smallB g a b = (decide (g.n ≤ a) && decide (((endsL g.es).length : Int) ≤ b)) := by unfold smallB; rw [decide_eq_true hl, hc, Bool.true_and, show decide ((0 : Int) ≠ 0) = false by decide, Bool.false_or]
   rw [e]
   by_cases hn : g.n ≤ a
   ·rw [decide_eq_true hn, Bool.true_and]
    repeat' (first|((first|(refine zT ?_;intro K' hK')|(refine zG ?_ ?_<;>(try refine zH ?_)<;>intro hguard<;>(try exact zX)<;>try intro K' hK'))<;>((try simp +contextual only [go_sem, eRows_len, hc, hn]);(repeat' first|(with_reducible refine hK' _ _ ?_;clear hK' K')|((with_reducible first|refine zL (c:=CheckR_ok g (by omega)) (q:=?_)|refine zK (SizeR_ok g hs.s hs.es hs.m) ?_);try simp +contextual only [go_sem, eRows_len, hc, hn])|exact zY|with_reducible refine And.intro ?_ ?_|(with_reducible intro hpath;try exact zP)|(refine hK' _ _ ?_;clear hK' K')|fail);try refine zS ?_))|(refine zE ?_;refine hK _ _ ?_;clear hK K)|(refine zN ?_;try refine zS ?_)|refine zA ?_|(refine zB ?_;intro K hK)|(refine zC ?_ ?_<;>(try refine zH ?_)<;>intro hcond<;>try exact zX)|fail)
    simp [Rets, aret, Blk.cells, ty, Tryz.results84, ares, toT1, toT, borrow, borrow0, capCell, toTree0, tbool]
   ·rw [decide_eq_false hn, Bool.false_and]
    repeat' (first|((first|(refine zT ?_;intro K' hK')|(refine zG ?_ ?_<;>(try refine zH ?_)<;>intro hguard<;>(try exact zX)<;>try intro K' hK'))<;>((try simp +contextual only [go_sem, eRows_len, hc, hn]);(repeat' first|(with_reducible refine hK' _ _ ?_;clear hK' K')|((with_reducible first|refine zL (c:=CheckR_ok g (by omega)) (q:=?_)|refine zK (SizeR_ok g hs.s hs.es hs.m) ?_);try simp +contextual only [go_sem, eRows_len, hc, hn])|exact zY|with_reducible refine And.intro ?_ ?_|(with_reducible intro hpath;try exact zP)|(refine hK' _ _ ?_;clear hK' K')|fail);try refine zS ?_))|(refine zE ?_;refine hK _ _ ?_;clear hK K)|(refine zN ?_;try refine zS ?_)|refine zA ?_|(refine zB ?_;intro K hK)|(refine zC ?_ ?_<;>(try refine zH ?_)<;>intro hcond<;>try exact zX)|fail)
    simp [Rets, aret, Blk.cells, ty, Tryz.results84, ares, toT1, toT, borrow, borrow0, capCell, toTree0, tbool]
  ·
   repeat' (first|((first|(refine zT ?_;intro K' hK')|(refine zG ?_ ?_<;>(try refine zH ?_)<;>intro hguard<;>(try exact zX)<;>try intro K' hK'))<;>((try simp +contextual only [go_sem, eRows_len]);(repeat' first|(with_reducible refine hK' _ _ ?_;clear hK' K')|(with_reducible refine zL (c:=CheckR_ok g (by omega)) (q:=?_);try simp +contextual only [go_sem, eRows_len])|exact zY|with_reducible refine And.intro ?_ ?_|(with_reducible intro hpath;try exact zP)|(refine hK' _ _ ?_;clear hK' K')|fail);try refine zS ?_))|(refine zE ?_;refine hK _ _ ?_;clear hK K)|(refine zN ?_;try refine zS ?_)|refine zA ?_|(refine zB ?_;intro K hK)|(refine zC ?_ ?_<;>(try refine zH ?_)<;>intro hcond<;>try exact zX)|fail)
   have e : smallB g a b = true := by unfold smallB; rw [decide_eq_true hl, decide_eq_true (show checkG g ≠ 0 from hc)]; rfl
   simp [Rets, aret, Blk.cells, ty, Tryz.results84, ares, toT1, toT, borrow, borrow0, capCell, toTree0, tbool, e]
 ·
  refine zR (zc @eRows_len trivial) trivial trivial ?_
  have e : smallB g a b = false := by unfold smallB; rw [decide_eq_false hl]; rfl
  simp [Rets, aret, Blk.cells, ty, Tryz.results84, ares, toT1, toT, borrow, borrow0, capCell, toTree0, tbool, e]
theorem FewG_ok (g : G) : ACall Tryz.prog 46 [tG g] (tbool (smallB g 6 9)) := by
 have h := small_ok g 6 9
 generalize smallB g 6 9 = b at *
 obtain ⟨n, es⟩ := g
 refine ACall.of_body Tryz.func46 rfl (by kernel_rfl) ?_
 simp only [entry, Tryz.ntmps46, tG]
 refine zU ?_
 refine zR trivial (zc h trivial) trivial ?_
 simp [Rets, aret, Blk.cells, ty, Tryz.results46, ares, toT1, toT, borrow, borrow0, capCell, toTree0, tbool]
def fewR (r : R) : Bool := smallB r.g 6 9 && (decide (r.ar.length ≤ 20) && r.ar.all fun l => decide (l.length ≤ 40))
theorem FewR_ok (r : R) : ACall Tryz.prog 11 [tR r] (tbool (fewR r)) := by
 have hG := FewG_ok r.g
 unfold fewR
 obtain ⟨n, es, ar⟩ := r
 simp only [R.g] at hG ⊢
 generalize smallB ⟨n, es⟩ 6 9 = b at *
 refine ACall.of_body Tryz.func11 rfl (by kernel_rfl) ?_
 simp only [entry, Tryz.ntmps11, tR]
 refine zU ?_
 cases b with
 | false =>
  rw [Bool.false_and]
  refine zR trivial (zc hG trivial) trivial ?_
  simp [Rets, aret, Blk.cells, ty, Tryz.results11, ares, toT1, toT, borrow, borrow0, capCell, toTree0, tbool]
 | true =>
  rw [Bool.true_and]
  by_cases hl : ar.length ≤ 20
  case neg =>
   have hlI : 20 < (ar.length : Int) := by omega
   rw [decide_eq_false hl, Bool.false_and]
   refine zR (zc @llRows_len (zc @hlI trivial)) (zc hG trivial) trivial ?_
   simp [Rets, aret, Blk.cells, ty, Tryz.results11, ares, toT1, toT, borrow, borrow0, capCell, toTree0, tbool]
  have hlI : ¬ (20 < (ar.length : Int)) := by omega
  rw [decide_eq_true hl, Bool.true_and]
  refine zR (zc @llRows_len (zc @hlI trivial)) (zc hG trivial) trivial ?_
  refine AWp.loopS (α:=Nat) 28 (fun i=>[(1,.c (.ptr 0 0)),(3,.c (.int .i64 (i : Int)))]) (fun i=>[.box [.int .i64 n, .slice (eRows es) .none, .slice (llRows ar) .none]]) (fun i=>i ≤ ar.length ∧ ∀ k l, k < i → ar[k]? = some l → l.length ≤ 40) (fun i=>ar.length - i) (0) (hk:=Weak.headL 1 28 [1, 3] zW) (h0:=?_) (round:=fun i hI=>?_)
  ·exact ⟨Nat.zero_le _, fun k l hk => absurd hk (Nat.not_lt_zero _)⟩
  ·obtain ⟨hi, hI2⟩ := hI
   by_cases hlt : i < ar.length
   ·have hltI : (i : Int) < ar.length := by omega
    have e0 := List.getElem?_eq_getElem hlt
    have e1 := llRows_get e0
    generalize hx : ar[i] = l at *
    by_cases hll : l.length ≤ 40
    ·have hllI : ¬ (40 < (l.length : Int)) := by omega
     refine zR (zc @hltI (zc @llRows_len (zc @iRows_len (zc @e1 (zc @hllI trivial))))) trivial trivial ?_
     refine ⟨i + 1,Weak.headN 1 28 [1, 3] zW,?_,?_⟩
     ·refine ⟨hlt, fun k m hk hm => ?_⟩
      by_cases e : k = i
      ·subst e; rw [e0] at hm; cases hm; exact hll
      ·exact hI2 k m (by omega) hm
     ·omega
    ·have hllI : 40 < (l.length : Int) := by omega
     have e : (ar.all fun l => decide (l.length ≤ 40)) = false := by
      rw [← Bool.not_eq_true, List.all_eq_true]
      intro h
      have := h l (List.mem_of_getElem? e0)
      exact hll (by simpa using this)
     rw [e]
     refine zR (zc @hltI (zc @llRows_len (zc @iRows_len (zc @e1 (zc @hllI trivial))))) trivial trivial ?_
     simp [Rets, aret, Blk.cells, ty, Tryz.results11, ares, toT1, toT, borrow, borrow0, capCell, toTree0, tbool]
   ·have e : (ar.all fun l => decide (l.length ≤ 40)) = true := by
     rw [List.all_eq_true]
     intro l hl2
     obtain ⟨k, hk, rfl⟩ := List.mem_iff_getElem.1 hl2
     exact decide_eq_true (hI2 k _ (by omega) (List.getElem?_eq_getElem hk))
    rw [e]
    have hnl : ¬ ((i : Int) < ar.length) := by omega
    refine zR (zc @hnl (zc @llRows_len trivial)) trivial trivial ?_
    simp [Rets, aret, Blk.cells, ty, Tryz.results11, ares, toT1, toT, borrow, borrow0, capCell, toTree0, tbool]
theorem rsm_of {r : R} (h : fewR r = true) : RSm r := by
 unfold fewR smallB at h
 simp only [Bool.and_eq_true, decide_eq_true_eq, List.all_eq_true] at h
 exact ⟨h.1.1, by omega, fun l hl => by have := h.2.2 l hl; omega⟩
end Go.Proofs.YtfkegnhpihoncaaGreat
