/- A part of the proof. -/
import Derived.Test.YtfkegnhpihoncaaGreatPart45
import Derived.Test.YtfkegnhpihoncaaGreatPart40
import Derived.Test.YtfkegnhpihoncaaGreatPart41
import Derived.Test.YtfkegnhpihoncaaGreatPart38
import Derived.Test.YtfkegnhpihoncaaGreatPart42
import Derived.Test.YtfkegnhpihoncaaGreatPart35
import Derived.Test.YtfkegnhpihoncaaGreatPart26
import Derived.Test.YtfkegnhpihoncaaGreatPart22
import Derived.Test.YtfkegnhpihoncaaGreatPart17
import Derived.Test.YtfkegnhpihoncaaGreatLayerC
set_option linter.all false
set_option maxHeartbeats 4000000
set_option maxRecDepth 100000
namespace Go.Proofs.YtfkegnhpihoncaaGreat
open Go.Sp
theorem few_size {r : R} (hf : fewR r = true) (hc : checkG r.g = 0) : (endsL r.es).length ≤ 9 ∧ r.n ≤ 6 := by
 unfold fewR smallB at hf
 simp only [Bool.and_eq_true, Bool.or_eq_true, decide_eq_true_eq] at hf
 have h1 := hf.1.2
 rcases h1 with h1 | h1
 ·exact absurd hc h1
 ·exact ⟨by have := h1.2; show (endsL r.g.es).length ≤ 9; omega, h1.1⟩
structure Tw (r d b : R) (l m : List Int) (E B : Nat) : Prop where
 d1 : dualD r = d
 d2 : dualE r = 0
 d3 : dualN r = l
 b1 : dualD d = b
 b2 : dualE d = 0
 b3 : dualN d = m
 sd : RSm d
 sb : RSm b
 ed : ribE d = 0
 eb : ribE b = 0
 gen : genusR d = genusR r
 bn : b.n = r.n
 ll : l.length = E
 ml : m.length = E
 e9 : E ≤ 9
 eE : (endsL r.es).length = E
 lr : ∀ x, x ∈ l → 0 ≤ x ∧ x < E
 mr : ∀ x, x ∈ m → 0 ≤ x ∧ x < E
 br : ∀ w, w ∈ b.ar → ∀ x, x ∈ w → 0 ≤ x ∧ x < 2 * E
 hB : B < 2 ^ E
 test : sortLL (b.ar.map (renL (behI (invK l (flB E B) l.length) (invK m (List.replicate E false) m.length) (2 * E)))) = sortLL r.ar
theorem point_of {r : R} (h : ROk r) (h0 : (endsL r.es).length = 0) : r = ⟨1, [], [[]]⟩ := by
 have hc := checkG_zero.1 h.c
 have hnil : endsL r.es = [] := List.length_eq_zero_iff.1 h0
 have hes : r.es = [] := by
  cases he : r.es with
  | nil => rfl
  | cons x xs =>
   have hx := hc.2.1 x (by show x ∈ r.es; rw [he]; simp)
   unfold okE at hx
   have : (x.a, x.b) ∈ endsL r.es := List.mem_flatMap.2 ⟨x, by rw [he]; simp, List.mem_replicate.2 ⟨by omega, rfl⟩⟩
   rw [hnil] at this; cases this
 have hk : r.g.n = ((r.n.toNat : Nat) : Int) := by have h12 : 1 ≤ r.n := hc.1.1; show r.n = _; omega
 have hcn := h.conn
 rw [conn_parts h.c hk, decide_eq_true_eq] at hcn
 have hcn2 : ncls r.n.toNat (Conn (endsL r.es)) = 1 := hcn
 rw [hnil, conn_nil_ncls] at hcn2
 have hn : r.n = 1 := by have h12 : 1 ≤ r.n := hc.1.1; omega
 have hlen := h.len
 rw [hn] at hlen
 obtain ⟨l, hl⟩ := List.length_eq_one_iff.1 (show r.ar.length = 1 by omega)
 have hlo := h.l 0 l (by rw [hl]; rfl)
 have hll := hlo.len
 rw [h0] at hll
 have hown := ownL_len (endsL r.es) ((0 : Nat) : Int) (2 * 0)
 have : l = [] := List.length_eq_zero_iff.1 (by omega)
 obtain ⟨n, es, ar⟩ := r
 simp only at hes hn hl
 rw [hes, hn, hl, this]
theorem point_dual (h : ribE ⟨1, [], [[]]⟩ = 0) : dualE ⟨1, [], [[]]⟩ = 0 ∧ dualD ⟨1, [], [[]]⟩ = ⟨1, [], [[]]⟩ ∧ dualN ⟨1, [], [[]]⟩ = [] := by
 have e1 : joinsR ⟨1, [], [[]]⟩ = [] := rfl
 have e2 : facesR ⟨1, [], [[]]⟩ = [[]] := rfl
 have hs : sortE [] = [] := List.Perm.eq_nil (sortE_perm [])
 have e3 : dualM ⟨1, [], [[]]⟩ = (⟨1, []⟩, 0) := by
  unfold dualM makeE
  rw [e1, e2, if_neg (by decide), if_neg (by decide), if_neg (by rintro ⟨p, hp, _⟩; cases hp), if_neg (by rintro ⟨p, hp, _⟩; cases hp)]
  show ((⟨1, sortE []⟩ : G), (0 : Int)) = _
  rw [hs]
 have e4 : dualE ⟨1, [], [[]]⟩ = 0 := by
  unfold dualE
  rw [if_neg (by omega), if_neg (by rw [e2]; decide), e3]
 refine ⟨e4, ?_, ?_⟩
 ·unfold dualD
  rw [if_neg (by omega), e3]; rfl
 ·unfold dualN
  rw [if_neg (by omega), e1]; rfl
theorem dual_err {r : R} (hr : ribE r = 0) (h9 : (endsL r.es).length ≤ 9) : dualE r = 5 ∨ (dualE r = 0 ∧ (facesR r).length ≤ 12) := by
 by_cases h12 : 12 < (facesR r).length
 ·left; unfold dualE; rw [if_neg (by omega), if_pos h12]
 ·right
  refine ⟨?_, by omega⟩
  have ho := rok_of hr
  by_cases h0 : (endsL r.es).length = 0
  ·have e := point_of ho h0
   rw [e] at hr ⊢
   exact (point_dual hr).1
  ·exact Rib.dual_zero ⟨ho, by omega, by omega, by omega⟩ hr
theorem sortI_le (l : List Int) : (sortI l).Pairwise (· ≤ ·) := by
 have := List.pairwise_mergeSort (le := fun x y : Int => decide (x ≤ y)) (fun a b c h1 h2 => by simp at *; omega) (fun a b => by simp; omega) l
 exact this.imp fun h => by simpa using h
theorem sortI_of {l m : List Int} (hs : m.Pairwise (· ≤ ·)) (hp : m.Perm l) : m = sortI l :=
 List.Perm.eq_of_pairwise (le := fun x y : Int => x ≤ y) (fun a b _ _ h1 h2 => Int.le_antisymm h1 h2) hs (sortI_le l) (hp.trans (sortI_perm l).symm)
def cotL (N t : List Int) (k : Nat) : List Int := ((List.range k).filter fun i : Nat => !decide ((i : Int) ∈ t)).map fun i : Nat => N.getD i 0
theorem cotL_in {N t : List Int} {k : Nat} (h : (k : Int) ∈ t) : cotL N t (k + 1) = cotL N t k := by
 unfold cotL
 rw [List.range_succ, List.filter_append]
 simp [h]
theorem cotL_out {N t : List Int} {k : Nat} (h : ¬ (k : Int) ∈ t) : cotL N t (k + 1) = cotL N t k ++ [N.getD k 0] := by
 unfold cotL
 rw [List.range_succ, List.filter_append]
 simp [h]
theorem cotL_len (N t : List Int) (k : Nat) : (cotL N t k).length ≤ k := by
 unfold cotL
 rw [List.length_map]
 refine Nat.le_trans (List.length_filter_le _ _) ?_
 rw [List.length_range]; exact Nat.le_refl _
noncomputable def cotE (r : R) (t : List Int) : Int := if ribE r ≠ 0 then ribE r else if treeE r.g t ≠ 0 then treeE r.g t else dualE r
noncomputable def cotR (r : R) (t : List Int) : List Int := if cotE r t ≠ 0 then [] else sortI (cotL (dualN r) t (dualN r).length)
theorem cot_bad (r : R) (t : List Int) (h : cotE r t ≠ 0) : cotR r t = [] := if_pos h
theorem rCotree_bad (r : R) (hs : RSm r) (t : List Int) (ht : t.length ≤ 40) (hb : cotE r t ≠ 0) : ACall Tryz.prog 40 [tR r, tints t] (.tup [tints (cotR r t), tint (cotE r t)]) := by
 have hC := rchecked_ok r hs
 rw [cot_bad r t hb]
 by_cases h1 : ribE r = 0
 case neg =>
  have e : cotE r t = ribE r := if_pos h1
  rw [e]
  rw [if_pos h1] at hC
  generalize ribE r = E at *
  clear hs e hb
  obtain ⟨n, es, ar⟩ := r
  refine ACall.of_body Tryz.func40 rfl (by kernel_rfl) ?_
  simp only [entry, Tryz.ntmps40, tR, tints]
  refine zU ?_
  refine zR (zc @h1 trivial) (zc hC trivial) trivial ?_
  simp [Rets, aret, Blk.cells, ty, Tryz.results40, ares, toT1, toT, borrow, borrow0, capCell, toTree0, tint, tints, iRows]
 have hT := tCheck_ok r.g t hs.es (by omega)
 rw [if_neg (by omega), h1] at hC
 by_cases h2 : treeE r.g t = 0
 case neg =>
  have e : cotE r t = treeE r.g t := by unfold cotE; rw [if_neg (by omega), if_pos h2]
  rw [e]
  generalize treeE r.g t = E at *
  generalize endsL r.es = L at *
  clear hs h1 e hb
  obtain ⟨n, es, ar⟩ := r
  simp only [R.g] at hT
  refine ACall.of_body Tryz.func40 rfl (by kernel_rfl) ?_
  simp only [entry, Tryz.ntmps40, tR, tints]
  refine zU ?_
  refine zR (zc @h2 trivial) (zc hC (zc hT trivial)) trivial ?_
  simp [Rets, aret, Blk.cells, ty, Tryz.results40, ares, toT1, toT, borrow, borrow0, capCell, toTree0, tint, tints, iRows]
 have hD := rDual_ok r hs
 have e : cotE r t = dualE r := by unfold cotE; rw [if_neg (by omega), if_neg (by omega)]
 rw [e] at hb ⊢
 rw [h2] at hT
 generalize dualE r = E at *
 generalize dualD r = D at *
 generalize dualN r = N at *
 generalize endsL r.es = L at *
 clear hs h1 h2 e
 obtain ⟨dn, des, dar⟩ := D
 obtain ⟨n, es, ar⟩ := r
 simp only [R.g, tR] at hT hD
 refine ACall.of_body Tryz.func40 rfl (by kernel_rfl) ?_
 simp only [entry, Tryz.ntmps40, tR, tints]
 refine zU ?_
 refine zR (zc @hb trivial) (zc hC (zc hT (zc hD trivial))) trivial ?_
 simp [Rets, aret, Blk.cells, ty, Tryz.results40, ares, toT1, toT, borrow, borrow0, capCell, toTree0, tint, tints, iRows]
theorem rCotree_x (r : R) (hs : RSm r) (t : List Int) (ht : t.length ≤ 40) (hb : cotE r t = 0) : ACallX Tryz.prog 40 [] [ofT (tR r), ofT (tints t)] (.tup [tints (cotR r t), tint (cotE r t)]) := by
 have hC := rchecked_ok r hs
 have h1 : ribE r = 0 := by
  by_cases h : ribE r = 0
  ·exact h
  ·unfold cotE at hb; rw [if_pos h] at hb; exact absurd hb h
 have h2 : treeE r.g t = 0 := by
  by_cases h : treeE r.g t = 0
  ·exact h
  ·unfold cotE at hb; rw [if_neg (by omega), if_pos h] at hb; exact absurd hb h
 have e : cotE r t = dualE r := by unfold cotE; rw [if_neg (by omega), if_neg (by omega)]
 have hT := tCheck_ok r.g t hs.es (by omega)
 have hD := rDual_ok r hs
 rw [if_neg (by omega), h1] at hC
 have er : cotR r t = sortI (cotL (dualN r) t (dualN r).length) := if_neg (by omega)
 rw [er, hb]
 rw [e] at hb
 rw [h2] at hT
 rw [hb] at hD
 have hlen : (endsL r.es).length ≤ 2000 := ends_len (g := r.g) hs.es (rok_of h1).c
 have hNl : (endsL r.es).length = (dualN r).length := by
  unfold dualN
  rw [if_neg (by omega), numI_len, joinsR_len]
 generalize dualD r = D at *
 generalize dualN r = N at *
 generalize endsL r.es = L at *
 clear hs h1 h2 hb e er
 obtain ⟨dn, des, dar⟩ := D
 obtain ⟨n, es, ar⟩ := r
 simp only [R.g, tR] at hT hD
 refine ACallX.of_body Tryz.func40 rfl (by kernel_rfl) (by simp [isMap]) ?_
 simp only [entry, Tryz.ntmps40, ofT, ofT1, ofTree, List.map_cons, List.map_nil, List.length_cons, List.length_nil, Nat.reduceAdd, Nat.reduceSub, List.replicate_succ, List.replicate_zero, List.cons_append, List.nil_append, tR, tints]
 refine FWp.seq ?_
 refine zR trivial trivial trivial ?_
 refine FWp.seq ?_
 refine zR trivial (zc hC trivial) trivial ?_
 refine FWp.seq ?_
 refine zR trivial trivial trivial ?_
 refine FWp.seq ?_
 refine zR trivial (zc hT trivial) trivial ?_
 refine FWp.seq ?_
 refine zR trivial (zc hD trivial) trivial ?_
 refine FWp.seq ?_
 refine zR trivial trivial trivial ?_
 refine FWp.seq ?_
 refine zR trivial trivial trivial ?_
 refine FWp.seq ?_
 refine zR (zc @pRows_len (zc @hNl trivial)) trivial trivial ?_
 refine AWp.weak (Weak.opens ((fun t f => [f, f, f, f, f, f, f, f, f, f, f, t, f, f, f, f, f, f, f, f, f, f, f, f, f, f, f, f, f, f, f, f, f, f, f, f, f, f, f, f, f, f, f, f, f, f, f, f, f, f, f, f, f, f, f, f, f]) true false) 1 (by first | omega | simp)) ?_
 simp only [openS, openV, List.length_cons, List.length_nil, List.length_append, Nat.reduceAdd, List.cons_append, List.nil_append]
 refine AWp.loopS (α:=Nat) 57 (fun i=>[(1,.c (.slice (iRows t) .none)),(10,.c (.slice (iRows N) .none)),(11,.c (.slice (iRows (cotL N t i)) (.chain 2))),(38,.c (.int .i64 (N.length : Int))),(39,.c (.int .i64 (i : Int)))]) (fun i=>[.box [.int .i64 n, .slice (eRows es) .none, .slice (llRows ar) .none], .box [.int .i64 dn, .slice (eRows des) .none, .slice (llRows dar) .none], .chain (cotL N t i).length 1]) (fun i=>i ≤ N.length) (fun i=>N.length - i) (0) (hk:=Weak.headL 3 57 [1, 10, 11, 38, 39] zW) (h0:=?_) (round:=fun i hI=>?_)
 ·exact Nat.zero_le _
 ·have hi : i ≤ N.length := hI
  clear hI
  have hcl := cotL_len N t i
  by_cases hlt : i < N.length
  ·have hltI : (i : Int) < N.length := by omega
   have e0 := List.getElem?_eq_getElem hlt
   have e1 := iRows_get e0
   have hH := Contains_ok t (i : Int) (by omega)
   by_cases hm : (i : Int) ∈ t
   ·have hc := cotL_in (N := N) hm
    rw [decide_eq_true hm] at hH
    generalize cotL N t i = C at *
    refine zR (zc @hltI (zc @iRows_len trivial)) (zc hH trivial) trivial ?_
    refine ⟨i + 1,Weak.headF 3 57 [1, 10, 11, 38, 39] (zc @hc trivial) zW,?_,?_⟩
    ·exact hlt
    ·omega
   ·have hc := cotL_out (N := N) hm
    rw [decide_eq_false hm] at hH
    rw [List.getD_eq_getElem?_getD, e0, Option.getD_some] at hc
    have hcs := iRows_snoc (cotL N t i) N[i]
    rw [← hc] at hcs
    have hcl2 : (cotL N t (i + 1)).length = (cotL N t i).length + 1 := by rw [hc]; simp
    generalize N[i] = x at *
    generalize hC2 : cotL N t (i + 1) = C2 at *
    generalize cotL N t i = C at *
    refine zRc (zc @hltI (zc @iRows_len (zc @e1 (zc @hcs trivial)))) (zc hH trivial) @iRows_k' ?_
    refine ⟨i + 1,Weak.headF 3 57 [1, 10, 11, 38, 39] (zc @hC2 (zc @hcl2 trivial)) zW,?_,?_⟩
    ·exact hlt
    ·omega
  ·have ei : i = N.length := by omega
   have hnl : ¬ ((i : Int) < (N.length : Int)) := by omega
   have hcl2 := cotL_len N t N.length
   rw [ei] at hnl ⊢
   generalize cotL N t N.length = C at *
   refine zR (zc @hnl trivial) trivial trivial ?_
   by_cases hCn : C = []
   ·subst hCn
    refine FWp.seq ?_
    repeat' (first|((first|(refine zT ?_;intro K' hK')|(refine zG ?_ ?_<;>(try refine zH ?_)<;>intro hguard<;>(try exact zX)<;>try intro K' hK'))<;>((try simp +contextual only [go_sem, iRows, List.map_nil]);(repeat' first|(with_reducible refine hK' _ _ ?_;clear hK' K')|(with_reducible refine zK SortI_none ?_;try simp +contextual only [go_sem, iRows, List.map_nil])|exact zY|with_reducible refine And.intro ?_ ?_|(with_reducible intro hpath;try exact zP)|(refine hK' _ _ ?_;clear hK' K')|fail);try refine zS ?_))|(refine zE ?_;refine hK _ _ ?_;clear hK K)|(refine zN ?_;try refine zS ?_)|refine zA ?_|(refine zB ?_;intro K hK)|(refine zC ?_ ?_<;>(try refine zH ?_)<;>intro hcond<;>try exact zX)|fail)
    refine FWp.of_awp ?_
    refine zR trivial trivial trivial ?_
    have hz : sortI [] = [] := List.Perm.eq_nil (sortI_perm [])
    simp [XRets, aretX, Blk.cells, ty, Tryz.results40, ares, toT1, toT, freshT, toTree0, Tree.flat, tint, tints, hz, iRows]
   ·refine FWp.weak (Weak.dead 0 rfl (Nat.zero_le _)) ?_
    refine FWp.weak (Weak.dead 1 rfl (Nat.zero_le _)) ?_
    refine FWp.weak (Weak.head2 (m := 3) (by omega) ((fun t f => [f, f, f, f, f, f, f, f, f, f, f, t, f, f, f, f, f, f, f, f, f, f, f, f, f, f, f, f, f, f, f, f, f, f, f, f, f, f, f, f, f, f, f, f, f, f, f, f, f, f, f, f, f, f, f, f, f]) true false) rfl rfl zW) ?_
    simp only [mask, List.take_succ_cons, List.take_zero, List.set_cons_succ, List.set_cons_zero]
    refine FWp.thawT 11 rfl rfl (fun r hr => iRows_k' hr) (by decide) (fun r hr => flatRow_spec (intRow_flat hr)) (by simp [iRows, hCn]) (safe_all (by simp [safeB, safeC])) (by simp [safeV, safeC, safeV1]) (fun id h => absurd h (Nat.not_lt_zero _)) (fun cap hcap => ?_)
    rw [iRows_len] at hcap
    have hsl2 : (sortI C).length = C.length := (sortI_perm C).length_eq
    refine FWp.seq ?_
    repeat' (first|((first|(refine zT ?_;intro K' hK')|(refine zG ?_ ?_<;>(try refine zH ?_)<;>intro hguard<;>(try exact zX)<;>try intro K' hK'))<;>((try simp +contextual only [go_sem, iRows_len]);(repeat' first|(with_reducible refine hK' _ _ ?_;clear hK' K')|((with_reducible first|refine ⟨_,_,SortI_ok C (by omega) rfl,?_⟩|refine ⟨_,SortI_ok C (by omega) rfl,?_⟩);try simp +contextual only [go_sem, iRows_len])|exact zY|with_reducible refine And.intro ?_ ?_|(with_reducible intro hpath;try exact zP)|(refine hK' _ _ ?_;clear hK' K')|fail);try refine zS ?_))|(refine zE ?_;refine hK _ _ ?_;clear hK K)|(refine zN ?_;try refine zS ?_)|refine zA ?_|(refine zB ?_;intro K hK)|(refine zC ?_ ?_<;>(try refine zH ?_)<;>intro hcond<;>try exact zX)|fail)
    refine FWp.of_awp ?_
    refine zR trivial trivial trivial ?_
    have hr := iRows_ref hsl2 hcap
    simp [XRets, aretX, Blk.cells, ty, Tryz.results40, ares, toT1, toT, freshT, toTree0, Tree.flat, tint, tints, iRows_len, hr]
theorem rCotree_ok (r : R) (hs : RSm r) (t : List Int) (ht : t.length ≤ 40) : ACall Tryz.prog 40 [tR r, tints t] (.tup [tints (cotR r t), tint (cotE r t)]) := by
 by_cases h : cotE r t = 0
 ·exact ACallX.toA (rCotree_x r hs t ht h)
 ·exact rCotree_bad r hs t ht h
end Go.Proofs.YtfkegnhpihoncaaGreat
