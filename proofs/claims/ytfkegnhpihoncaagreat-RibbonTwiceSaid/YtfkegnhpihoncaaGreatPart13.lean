/- A part of the proof: contracts of functions of the program, and plain lemmas. -/
import Derived.Test.YtfkegnhpihoncaaGreatPart12
import Derived.Test.YtfkegnhpihoncaaGreatLayerC
import Derived.Test.YtfkegnhpihoncaaGreatPart11
set_option linter.all false
namespace Go.Proofs.YtfkegnhpihoncaaGreat
open Go.Sp
set_option linter.unusedSimpArgs false
set_option linter.unusedVariables false
set_option maxHeartbeats 4000000
set_option maxRecDepth 100000
structure RSm (r : R) : Prop where
  es : r.es.length ≤ 40
  ar : r.ar.length < 2 ^ 20
  l : ∀ l, l ∈ r.ar → l.length < 2 ^ 20
theorem ends_len {g : G} (hl : g.es.length ≤ 40) (hc : checkG g = 0) : (endsL g.es).length ≤ 2000 := by
  obtain ⟨_, h2, _⟩ := checkG_zero.1 hc
  have := endsL_len (es := g.es) fun e he => by have := h2 e he; unfold okE at this; omega
  omega
theorem rjoined_ok (g : G) (hl : g.es.length ≤ 40) : ACall Tryz.prog 66 [tG g] (.tup [tpairs (if checkG g ≠ 0 then [] else endsL g.es), tint (joinedE g)]) := by
  have hE := Ends_ok g (by omega)
  have hC := Connected_ok g (by omega)
  unfold joinedE
  by_cases hc : checkG g = 0
  · rw [if_neg (by omega)] at hE ⊢
    rw [if_neg (by omega)]
    rw [hc, decide_eq_true rfl, Bool.true_and] at hC
    generalize connB g = b at *
    generalize endsL g.es = L at *
    obtain ⟨n, es⟩ := g
    refine ACall.of_body Tryz.func66 rfl (by kernel_rfl) ?_
    simp only [entry, Tryz.ntmps66, tG]
    refine zU ?_
    cases b with
    | true =>
      rw [if_pos rfl]
      refine zR trivial (zc hE (zc hC trivial)) trivial ?_
      simp [Rets, aret, Blk.cells, ty, Tryz.results66, ares, toT1, toT, borrow, borrow0, capCell, toTree0, tint, tpairs]
    | false =>
      rw [if_neg (by simp)]
      refine zR trivial (zc hE (zc hC trivial)) trivial ?_
      simp [Rets, aret, Blk.cells, ty, Tryz.results66, ares, toT1, toT, borrow, borrow0, capCell, toTree0, tint, tpairs]
  · rw [if_pos hc] at hE ⊢
    rw [if_pos hc]
    generalize checkG g = E at *
    obtain ⟨n, es⟩ := g
    refine ACall.of_body Tryz.func66 rfl (by kernel_rfl) ?_
    simp only [entry, Tryz.ntmps66, tG]
    refine zU ?_
    refine zR (zc @hc trivial) (zc hE trivial) trivial ?_
    simp [Rets, aret, Blk.cells, ty, Tryz.results66, ares, toT1, toT, borrow, borrow0, capCell, toTree0, tint, tpairs, pRows]
theorem rchecked_ok (r : R) (hr : RSm r) : ACall Tryz.prog 49 [tR r] (.tup [tpairs (if ribE r ≠ 0 then [] else endsL r.es), tint (ribE r)]) := by
  have hJ := rjoined_ok r.g hr.es
  by_cases hj : joinedE r.g = 0
  case neg =>
    have e : ribE r = joinedE r.g := by unfold ribE; rw [if_pos hj]
    rw [e, if_pos hj]
    have hL : ∃ L, (if checkG r.g ≠ 0 then [] else endsL r.g.es) = L := ⟨_, rfl⟩
    obtain ⟨L, hL⟩ := hL
    rw [hL] at hJ
    generalize joinedE r.g = E at *
    obtain ⟨n, es, ar⟩ := r
    refine ACall.of_body Tryz.func49 rfl (by kernel_rfl) ?_
    simp only [entry, Tryz.ntmps49, tR]
    refine zU ?_
    refine zR (zc @hj trivial) (zc hJ trivial) trivial ?_
    simp [Rets, aret, Blk.cells, ty, Tryz.results49, ares, toT1, toT, borrow, borrow0, capCell, toTree0, tint, tpairs, pRows]
  have hc : checkG r.g = 0 := by
    unfold joinedE at hj
    by_cases h : checkG r.g = 0
    · exact h
    · rw [if_pos h] at hj; exact absurd hj h
  have h12 := (checkG_zero.1 hc).1
  rw [if_neg (by omega), hj] at hJ
  have hlen := ends_len (g := r.g) hr.es hc
  have hat : ∀ h, h < 2 * (endsL r.es).length → 0 ≤ atL (endsL r.es) h ∧ atL (endsL r.es) h < (r.n.toNat : Nat) := fun h hh => by
    have h12' : 1 ≤ r.n := h12.1
    have := atL_range hc hh; omega
  have hn : r.n = (r.n.toNat : Nat) := by have h12' : 1 ≤ r.n := h12.1; omega
  have hnb : r.n ≤ 12 := h12.2
  have hA := hr.ar
  have hLl := hr.l
  have eR : ribE r = if (r.ar.length : Int) ≠ r.n then 8 else chkGo (endsL r.es) (2 * (endsL r.es).length) 0 r.ar := by unfold ribE; rw [if_neg (by omega)]
  rw [eR]
  have hH := halves_ok (endsL r.es) r.n.toNat (by omega) (by have : (endsL r.es).length ≤ 2000 := hlen; omega) hat
  rw [← hn] at hH
  clear hr hj hc h12 hat eR
  obtain ⟨n, es, ar⟩ := r
  simp only [R.g] at hJ hlen hH hn hnb hA hLl ⊢
  generalize endsL es = L at *
  generalize hk : n.toNat = k at *
  subst hn
  refine ACall.of_body Tryz.func49 rfl (by kernel_rfl) ?_
  simp only [entry, Tryz.ntmps49, tR]
  refine zU ?_
  by_cases hlen2 : ar.length = k
  case neg =>
    have hI : ¬ ((ar.length : Int) = k) := by omega
    rw [if_pos hI]
    refine zR (zc @llRows_len (zc @hI trivial)) (zc hJ trivial) trivial ?_
    simp [Rets, aret, Blk.cells, ty, Tryz.results49, ares, toT1, toT, borrow, borrow0, capCell, toTree0, tint, tpairs, pRows]
  have hI : (ar.length : Int) = k := by omega
  rw [if_neg (show ¬ ((ar.length : Int) ≠ (k : Int)) by omega)]
  refine zR (zc @llRows_len (zc @hI (zc @halvesL_len trivial))) (zc hJ (zc hH trivial)) trivial ?_
  refine AWp.loopS (α:=Nat) 48 (fun i=>[(1,.c (.ptr 0 0)),(4,.c (.slice (pRows L) .none)),(29,.c (.slice (llRows (halvesL L k (2 * L.length))) .none)),(30,.c (.int .i64 (k : Int))),(31,.c (.int .i64 (i : Int)))]) (fun i=>[.box [.int .i64 (k : Int), .slice (eRows es) .none, .slice (llRows ar) .none]]) (fun i=>i ≤ k ∧ chkGo L (2 * L.length) 0 ar = chkGo L (2 * L.length) i (ar.drop i)) (fun i=>k - i) (0) (hk:=Weak.headL 1 48 [1, 4, 29, 30, 31] zW) (h0:=?_) (round:=fun i hI=>?_)
  · exact ⟨Nat.zero_le _, rfl⟩
  · obtain ⟨hi, hI2⟩ := hI
    by_cases hlt : i < k
    · have hltI : (i : Int) < k := by omega
      have hil : i < ar.length := by omega
      have e0 := List.getElem?_eq_getElem hil
      have e1 := llRows_get e0
      have e2 := llRows_get (halvesL_get (L := L) (k := 2 * L.length) hlt)
      have hd := List.drop_eq_getElem_cons hil
      have hl := hLl _ (List.getElem_mem hil)
      generalize ar[i] = l at *
      have hol := ownL_len L (i : Int) (2 * L.length)
      have hlist := list_ok l (ownL L (i : Int) (2 * L.length)) (ownL_sorted _ _ _) (by omega) (by omega)
      have hg : chkGo L (2 * L.length) i (l :: ar.drop (i + 1)) = if lstErr l (ownL L (i : Int) (2 * L.length)) ≠ 0 then lstErr l (ownL L (i : Int) (2 * L.length)) else chkGo L (2 * L.length) (i + 1) (ar.drop (i + 1)) := rfl
      rw [← hd, ← hI2] at hg
      generalize lstErr l (ownL L (i : Int) (2 * L.length)) = E at *
      by_cases hE : E = 0
      · rw [if_neg (by omega)] at hg
        subst hE
        refine zR (zc @hltI (zc @llRows_len (zc @hI (zc @e1 (zc @e2 trivial))))) (zc hlist trivial) trivial ?_
        refine ⟨i + 1,Weak.headN 1 48 [1, 4, 29, 30, 31] zW,?_,?_⟩
        · exact ⟨hlt, hg⟩
        · omega
      · rw [if_pos hE] at hg
        rw [hg, if_pos hE]
        refine zR (zc @hltI (zc @llRows_len (zc @hI (zc @e1 (zc @e2 (zc @hE trivial)))))) (zc hlist trivial) trivial ?_
        simp [Rets, aret, Blk.cells, ty, Tryz.results49, ares, toT1, toT, borrow, borrow0, capCell, toTree0, tint, tpairs, pRows]
    · have ei : i = k := by omega
      subst ei
      have hz : chkGo L (2 * L.length) 0 ar = 0 := by rw [hI2, List.drop_eq_nil_of_le (by omega)]; rfl
      have hnl : ¬ ((i : Int) < i) := by omega
      rw [hz, if_neg (by omega)]
      refine zR (zc @hnl trivial) trivial trivial ?_
      simp [Rets, aret, Blk.cells, ty, Tryz.results49, ares, toT1, toT, borrow, borrow0, capCell, toTree0, tint, tpairs]
end Go.Proofs.YtfkegnhpihoncaaGreat
set_option linter.all false
namespace Go.Proofs.YtfkegnhpihoncaaGreat
open Go.Sp
set_option linter.unusedSimpArgs false
set_option linter.unusedVariables false
def leastGo (l : List Int) : Nat → Nat
  | 0 => 0
  | k + 1 => if l.getD (k + 1) 0 < l.getD (leastGo l k) 0 then k + 1 else leastGo l k
theorem leastGo_spec (l : List Int) : ∀ k : Nat, leastGo l k ≤ k ∧ (∀ i, i ≤ k → l.getD (leastGo l k) 0 ≤ l.getD i 0) ∧ ∀ i, i < leastGo l k → l.getD (leastGo l k) 0 < l.getD i 0
  | 0 => ⟨Nat.le_refl _, fun i hi => by rw [show i = 0 by omega]; exact Int.le_refl _, fun i hi => absurd hi (Nat.not_lt_zero _)⟩
  | k + 1 => by
    obtain ⟨h1, h2, h3⟩ := leastGo_spec l k
    simp only [leastGo]
    split
    · rename_i h
      refine ⟨Nat.le_refl _, fun i hi => ?_, fun i hi => ?_⟩
      · rcases Nat.lt_or_eq_of_le hi with h4 | h4
        · have := h2 i (by omega); omega
        · subst h4; exact Int.le_refl _
      · have := h2 i (by omega); omega
    · rename_i h
      refine ⟨by omega, fun i hi => ?_, h3⟩
      rcases Nat.lt_or_eq_of_le hi with h4 | h4
      · exact h2 i (by omega)
      · subst h4; omega
def leastN (l : List Int) : Nat := leastGo l (l.length - 1)
def turnL (l : List Int) : List Int := l.drop (leastN l) ++ l.take (leastN l)
theorem leastN_lt {l : List Int} (h : l ≠ []) : leastN l < l.length := by
  have := (leastGo_spec l (l.length - 1)).1
  have := List.length_pos_iff.2 h
  unfold leastN; omega
theorem turnL_len (l : List Int) : (turnL l).length = l.length := by
  unfold turnL
  rw [List.length_append, List.length_drop, List.length_take]
  by_cases h : l = []
  · subst h; rfl
  · have := leastN_lt h; omega
theorem turnL_nil : turnL [] = [] := rfl
def mirL (ar : List (List Int)) : List (List Int) := ar.map fun l => turnL l.reverse
def facesR (r : R) : List (List Nat) := if (endsL r.es).length = 0 then [[]] else facesN (fR (endsL r.es) r.ar) (2 * (endsL r.es).length) (2 * (endsL r.es).length)
def genusR (r : R) : Int := Int.tdiv (2 - r.n + (endsL r.es).length - (facesR r).length) 2
end Go.Proofs.YtfkegnhpihoncaaGreat
set_option linter.all false
namespace Go.Proofs.YtfkegnhpihoncaaGreat
open Go.Sp
set_option linter.unusedSimpArgs false
set_option linter.unusedVariables false
set_option maxHeartbeats 4000000
set_option maxRecDepth 100000
theorem Min_ok (l : List Int) (hne : l ≠ []) (hl : l.length < 2 ^ 40) : ACall Tryz.prog 105 [tints l] (tint (l.getD (leastN l) 0)) := by
  have hp : 0 < l.length := List.length_pos_iff.2 hne
  have e0 := List.getElem?_eq_getElem hp
  have r0 := iRows_get e0
  have d0 : l.getD 0 0 = l[0] := by rw [List.getD_eq_getElem?_getD, e0]; rfl
  generalize l[0] = x0 at *
  refine ACall.of_body Tryz.func105 rfl (by kernel_rfl) ?_
  simp only [entry, Tryz.ntmps105, tints]
  refine zU ?_
  refine zR (zc @iRows_len (zc @r0 (zc @Int.toNat_zero trivial))) trivial trivial ?_
  have hx0 : x0 = l.getD (leastGo l 0) 0 := d0.symm
  rw [hx0]
  refine AWp.loopS (α:=Nat) 25 (fun i=>[(0,.c (.slice (iRows l) .none)),(3,.c (.int .i64 (l.getD (leastGo l i) 0))),(4,.c (.int .i64 ((i : Int) + 1)))]) (fun i=>[]) (fun i=>i < l.length) (fun i=>l.length - i) (0) (hk:=Weak.headL 0 25 [0, 3, 4] zW) (h0:=?_) (round:=fun i hI=>?_)
  · exact hp
  · by_cases hlt : i + 1 < l.length
    · have hltI : (i : Int) + 1 < l.length := by omega
      have e1 := List.getElem?_eq_getElem hlt
      have r1 := iRows_get e1
      have d1 : l.getD (i + 1) 0 = l[i + 1] := by rw [List.getD_eq_getElem?_getD, e1]; rfl
      have hnx : l.getD (leastGo l (i + 1)) 0 = min (l.getD (leastGo l i) 0) (l.getD (i + 1) 0) := by
        simp only [leastGo]; split <;> omega
      rw [d1] at hnx
      have ht : ((i : Int) + 1).toNat = i + 1 := by omega
      generalize l[i + 1] = y at *
      generalize l.getD (leastGo l i) 0 = m at *
      refine zR (zc @hltI (zc @iRows_len (zc @r1 (zc @ht trivial)))) trivial trivial ?_
      refine ⟨i + 1,Weak.headF 0 25 [0, 3, 4] (zc @hnx trivial) zW,?_,?_⟩
      · omega
      · omega
    · have ei : leastN l = leastGo l i := by unfold leastN; congr 1; omega
      have hnl : ¬ ((i : Int) + 1 < l.length) := by omega
      rw [ei]
      refine zR (zc @hnl (zc @iRows_len trivial)) trivial trivial ?_
      simp [Rets, aret, Blk.cells, ty, Tryz.results105, ares, toT1, toT, borrow, borrow0, capCell, toTree0, tint]
theorem Grow_ok (H : List Blk) (n : Nat) (h0 : 0 < n) (hn : n < 2 ^ 30) : ACallH Tryz.prog 142 H [.c .nils, .c (.int .i64 n)] (H ++ [.box (List.replicate n (.int .i64 0))]) (.c (.ref H.length 1 0 0 n)) := by
  have h0I : (0 : Int) < n := by omega
  have h1I : ¬ ((n : Int) < 0) := by omega
  refine ACallH.of_body Tryz.func142 rfl (by kernel_rfl) ?_
  simp only [entry, Tryz.ntmps142, List.length_cons, List.length_nil, Nat.reduceAdd, Nat.reduceSub, List.replicate_succ, List.replicate_zero, List.cons_append, List.nil_append]
  repeat' (first|((with_reducible refine AWp.seq (AWp.of_reg (id:=3) (AReg.pre 2 (fun K hK=>?_))));simp only [List.take_succ_cons,List.take_zero])|((with_reducible refine AWp.of_reg (id:=3) (AReg.pre 2 (fun K hK=>?_)));simp only [List.take_succ_cons,List.take_zero])|((first|(refine zT ?_;intro K' hK')|(refine zG ?_ ?_<;>(try refine zH ?_)<;>intro hguard<;>(try exact zX)<;>try intro K' hK'))<;>((try simp +contextual only [go_sem, h1I, h0I]);(repeat' first|(with_reducible refine hK' _ _ ?_;clear hK' K')|exact zY|with_reducible refine And.intro ?_ ?_|(with_reducible intro hpath;try exact zP)|(refine hK' _ _ ?_;clear hK' K')|fail);try refine zS ?_))|(refine zE ?_;refine hK _ _ ?_;clear hK K)|(refine zN ?_;try refine zS ?_)|refine zA ?_|(refine zB ?_;intro K hK)|(refine zC ?_ ?_<;>(try refine zH ?_)<;>intro hcond<;>try exact zX)|fail)
  simp only [List.drop_succ_cons, List.drop_zero]
  refine AReg.step (rv := .c (.int .i64 0)) (H' := H) rfl rfl (step_cap_nil (e := 3) _ _ rfl (by simp only [ty]) rfl) ?_
  refine AReg.rest (fun K hK => ?_)
  have e0 : (n : Int) - (0 - ((0 : Nat) : Int)) = n := by omega
  repeat' (first|((with_reducible refine AWp.seq (AWp.of_reg (id:=5) (AReg.pre 2 (fun K hK=>?_))));simp only [List.take_succ_cons,List.take_zero])|((with_reducible refine AWp.of_reg (id:=5) (AReg.pre 2 (fun K hK=>?_)));simp only [List.take_succ_cons,List.take_zero])|((first|(refine zT ?_;intro K' hK')|(refine zG ?_ ?_<;>(try refine zH ?_)<;>intro hguard<;>(try exact zX)<;>try intro K' hK'))<;>((try simp +contextual only [go_sem, h1I, h0I, e0]);(repeat' first|(with_reducible refine hK' _ _ ?_;clear hK' K')|exact zY|with_reducible refine And.intro ?_ ?_|(with_reducible intro hpath;try exact zP)|(refine hK' _ _ ?_;clear hK' K')|fail);try refine zS ?_))|(refine zE ?_;refine hK _ _ ?_;clear hK K)|(refine zN ?_;try refine zS ?_)|refine zA ?_|(refine zB ?_;intro K hK)|(refine zC ?_ ?_<;>(try refine zH ?_)<;>intro hcond<;>try exact zX)|fail)
  simp only [List.drop_succ_cons, List.drop_zero]
  refine AReg.step (rv := .c (.int .i64 0)) (H' := H) rfl rfl (step_cap_nil (e := 3) _ _ rfl (by simp only [ty]) rfl) ?_
  refine AReg.step (rv := .c .nils) (H' := H) rfl rfl (step_part_nil (e := 3) _ _ _ rfl (by simp only [ty]) (by simp only [ty]) rfl rfl) ?_
  refine AReg.pre 1 (fun K hK => ?_)
  simp only [List.take_succ_cons, List.take_zero]
  repeat' (first|((first|(refine zT ?_;intro K' hK')|(refine zG ?_ ?_<;>(try refine zH ?_)<;>intro hguard<;>(try exact zX)<;>try intro K' hK'))<;>((try simp +contextual only [go_sem]);(repeat' first|(with_reducible refine hK' _ _ ?_;clear hK' K')|exact zY|with_reducible refine And.intro ?_ ?_|(with_reducible intro hpath;try exact zP)|(refine hK' _ _ ?_;clear hK' K')|fail);try refine zS ?_))|(refine zE ?_;refine hK _ _ ?_;clear hK K)|(refine zN ?_;try refine zS ?_)|fail)
  simp only [List.drop_succ_cons, List.drop_zero]
  refine AReg.step (rv := .c (.ref H.length 1 0 n n)) (H' := H ++ [.box (List.replicate n (.int .i64 0))]) rfl rfl (step_append_made (e := 3) (by' := 8) (k0 := .i64) _ _ _ _ rfl (by simp only [ty]) (by simp only [ty]) (by simp only [ty]) (by simp only [ty]) (by simp only [ty]) rfl rfl h0 (by omega) (by omega)) ?_
  refine AReg.pre 2 (fun K hK => ?_)
  simp only [List.take_succ_cons, List.take_zero]
  repeat' (first|((first|(refine zT ?_;intro K' hK')|(refine zG ?_ ?_<;>(try refine zH ?_)<;>intro hguard<;>(try exact zX)<;>try intro K' hK'))<;>((try simp +contextual only [go_sem]);(repeat' first|(with_reducible refine hK' _ _ ?_;clear hK' K')|exact zY|with_reducible refine And.intro ?_ ?_|(with_reducible intro hpath;try exact zP)|(refine hK' _ _ ?_;clear hK' K')|fail);try refine zS ?_))|(refine zE ?_;refine hK _ _ ?_;clear hK K)|(refine zN ?_;try refine zS ?_)|fail)
  simp only [List.drop_succ_cons, List.drop_zero]
  refine AReg.step (rv := .c (.ref H.length 1 0 0 n)) (H' := H ++ [.box (List.replicate n (.int .i64 0))]) rfl rfl (step_slice_ref (e := 3) (l := 0) (h := 0) _ _ _ _ rfl (by simp only [ty]) (by simp only [ty]) rfl rfl rfl (Nat.le_refl _) (Nat.zero_le _) (Nat.le_refl _) (.inl rfl)) ?_
  refine AReg.rest (fun K hK => ?_)
  repeat' (first|((first|(refine zT ?_;intro K' hK')|(refine zG ?_ ?_<;>(try refine zH ?_)<;>intro hguard<;>(try exact zX)<;>try intro K' hK'))<;>((try simp +contextual only [go_sem]);(repeat' first|(with_reducible refine hK' _ _ ?_;clear hK' K')|exact zY|with_reducible refine And.intro ?_ ?_|(with_reducible intro hpath;try exact zP)|(refine hK' _ _ ?_;clear hK' K')|fail);try refine zS ?_))|(refine zE ?_;refine hK _ _ ?_;clear hK K)|(refine zN ?_;try refine zS ?_)|refine zA ?_|(refine zB ?_;intro K hK)|(refine zC ?_ ?_<;>(try refine zH ?_)<;>intro hcond<;>try exact zX)|fail)
  simp [RetsH, aretH, ares, noTup, Tryz.results142]
end Go.Proofs.YtfkegnhpihoncaaGreat
set_option linter.all false
namespace Go.Proofs.YtfkegnhpihoncaaGreat
open Go.Sp
set_option linter.unusedSimpArgs false
set_option linter.unusedVariables false
set_option maxHeartbeats 4000000
set_option maxRecDepth 100000
theorem setMany_mid (pre mid post new : List ACell) (h : new.length = mid.length) : setMany (pre ++ mid ++ post) pre.length new = pre ++ new ++ post := by
  apply List.ext_getElem?
  intro i
  rw [setMany_get _ _ _ _ (by simp; omega)]
  by_cases h1 : i < pre.length
  · rw [if_neg (by omega), List.append_assoc, List.append_assoc, List.getElem?_append_left h1, List.getElem?_append_left h1]
  · by_cases h2 : i < pre.length + new.length
    · rw [if_pos ⟨by omega, h2⟩, List.append_assoc, List.getElem?_append_right (by omega), List.getElem?_append_left (by omega)]
    · rw [if_neg (by omega), List.getElem?_append_right (by simp; omega), List.getElem?_append_right (l₁ := pre ++ new) (by simp; omega)]
      simp [h]
theorem flat_iRows (l : List Int) : flatRows (iRows l) = iC l := by
  unfold flatRows iRows iC
  induction l with
  | nil => rfl
  | cons x l ih => simp only [List.map_cons, List.flatten_cons, List.map_append, ih]; rfl
theorem iC_app (a b : List Int) : iC (a ++ b) = iC a ++ iC b := by simp [iC]
theorem iC_rep (n : Nat) (x : Int) : iC (List.replicate n x) = List.replicate n (.int .i64 x) := by simp [iC]
theorem iC_put (A l : List Int) (m : Nat) : setMany (iC (A ++ List.replicate (l.length + m) 0)) A.length (iC l) = iC (A ++ l ++ List.replicate m 0) := by
  have e : List.replicate (l.length + m) (0 : Int) = List.replicate l.length 0 ++ List.replicate m 0 := List.replicate_append_replicate.symm
  rw [e, ← List.append_assoc, iC_app, iC_app, iC_app, iC_app]
  have := setMany_mid (iC A) (iC (List.replicate l.length 0)) (iC (List.replicate m 0)) (iC l) (by simp [iC_len])
  rwa [iC_len] at this
def catT (ls : List (List Int)) (i : Nat) : List Int := (ls.take i).flatten
theorem catT_all (ls : List (List Int)) : catT ls ls.length = ls.flatten := by unfold catT; rw [List.take_length]
theorem Concat_ok (ls : List (List Int)) (h0 : 0 < ls.flatten.length) (hn : ls.flatten.length < 2 ^ 30) (hl : ls.length < 2 ^ 20) : ACall Tryz.prog 106 [tlists ls] (tints ls.flatten) := by
  have htake : ∀ i, i < ls.length → catT ls (i + 1) = catT ls i ++ ls.getD i [] := fun i hi => by
    unfold catT; rw [List.take_succ_eq_append_getElem hi, List.flatten_append, List.getD_eq_getElem?_getD, List.getElem?_eq_getElem hi]; simp
  have hle : ∀ i : Nat, (catT ls i).length ≤ ls.flatten.length := fun i => by
    unfold catT
    have := congrArg List.flatten (List.take_append_drop i ls)
    rw [List.flatten_append] at this
    have := congrArg List.length this
    rw [List.length_append] at this; omega
  refine ACall.of_body Tryz.func106 rfl (by kernel_rfl) ?_
  simp only [entry, Tryz.ntmps106, tlists]
  refine zU ?_
  refine zR (zc @llRows_len trivial) trivial trivial ?_
  refine AWp.loopS (α:=Nat) 36 (fun i=>[(0,.c (.slice (llRows ls) .none)),(3,.c (.int .i64 ((catT ls i).length : Int))),(9,.c (.slice (llRows ls) .none)),(10,.c (.int .i64 (ls.length : Int))),(11,.c (.int .i64 (i : Int)))]) (fun i=>[]) (fun i=>i ≤ ls.length) (fun i=>ls.length - i) (0) (hk:=Weak.headL 0 36 [0, 3, 9, 10, 11] (zV @iC_in)) (h0:=?_) (round:=fun i hI=>?_)
  · exact Nat.zero_le _
  · have hi : i ≤ ls.length := hI
    clear hI
    by_cases hlt : i < ls.length
    · have hltI : (i : Int) < ls.length := by omega
      have e0 := List.getElem?_eq_getElem hlt
      have e1 := llRows_get e0
      have ht := htake i hlt
      have hl1 := hle (i + 1)
      rw [List.getD_eq_getElem?_getD, e0, Option.getD_some] at ht
      rw [ht, List.length_append] at hl1
      have hc : ((catT ls i).length : Int) + (ls[i].length : Int) = ((catT ls (i + 1)).length : Int) := by rw [ht, List.length_append]; omega
      have hge : ¬ (((catT ls (i + 1)).length : Int) < 0) := by omega
      generalize ls[i] = l at *
      generalize catT ls i = A at *
      refine zR (zc @hltI (zc @llRows_len (zc @iRows_len (zc @e1 (zc @hc (zc @hge trivial)))))) trivial trivial ?_
      refine ⟨i + 1,Weak.headN 0 36 [0, 3, 9, 10, 11] (zV @iC_in),?_,?_⟩
      · exact hlt
      · omega
    · have ei : i = ls.length := by omega
      subst ei
      have hnl : ¬ ((ls.length : Int) < ls.length) := by omega
      rw [catT_all]
      have hG := Grow_ok [] ls.flatten.length h0 hn
      repeat' (first|((first|(refine zT ?_;intro K' hK')|(refine zG ?_ ?_<;>(try refine zH ?_)<;>intro hguard<;>(try exact zX)<;>try intro K' hK'))<;>((try simp +contextual only [go_sem, hnl, llRows_len]);(repeat' first|(with_reducible refine hK' _ _ ?_;clear hK' K')|((with_reducible first|refine ⟨_,_,hG,?_⟩|refine ⟨_,hG,?_⟩);try simp +contextual only [go_sem, hnl, llRows_len])|exact zY|with_reducible refine And.intro ?_ ?_|(with_reducible intro hpath;try exact zP)|(refine hK' _ _ ?_;clear hK' K')|fail);try refine zS ?_))|(refine zE ?_;refine hK _ _ ?_;clear hK K)|(refine zN ?_;try refine zS ?_)|refine zA ?_|(refine zB ?_;intro K hK)|(refine zC ?_ ?_<;>(try refine zH ?_)<;>intro hcond<;>try exact zX)|fail)
      try simp only [List.nil_append, List.length_nil]
      rw [← iC_rep]
      refine AWp.loopS (α:=Nat) 36 (fun i=>[(6,.c (.ref 0 1 0 (catT ls i).length ls.flatten.length)),(25,.c (.slice (llRows ls) .none)),(26,.c (.int .i64 (ls.length : Int))),(27,.c (.int .i64 (i : Int)))]) (fun i=>[.box (iC (catT ls i ++ List.replicate (ls.flatten.length - (catT ls i).length) 0))]) (fun i=>i ≤ ls.length) (fun i=>ls.length - i) (0) (hk:=Weak.headL 1 36 [6, 25, 26, 27] (zV @iC_in)) (h0:=?_) (round:=fun i hI=>?_)
      · exact Nat.zero_le _
      · have hi : i ≤ ls.length := hI
        clear hI
        by_cases hlt : i < ls.length
        · have hltI : (i : Int) < ls.length := by omega
          have e0 := List.getElem?_eq_getElem hlt
          have e1 := llRows_get e0
          have ht := htake i hlt
          have hl1 := hle (i + 1)
          rw [List.getD_eq_getElem?_getD, e0, Option.getD_some] at ht
          rw [ht, List.length_append] at hl1
          have hm : ls.flatten.length - (catT ls i).length = ls[i].length + (ls.flatten.length - (catT ls (i + 1)).length) := by rw [ht, List.length_append]; omega
          have hp := iC_put (catT ls i) ls[i] (ls.flatten.length - (catT ls (i + 1)).length)
          rw [← hm, ← ht] at hp
          have hlen : (catT ls (i + 1)).length = (catT ls i).length + ls[i].length := by rw [ht, List.length_append]
          generalize ls[i] = l at *
          generalize hB : catT ls (i + 1) = B at *
          generalize catT ls i = A at *
          generalize ls.flatten.length = n at *
          repeat' (first|((with_reducible refine AWp.seq (AWp.of_reg (id:=13) (AReg.pre 2 (fun K hK=>?_))));simp only [List.take_succ_cons,List.take_zero])|((with_reducible refine AWp.of_reg (id:=13) (AReg.pre 2 (fun K hK=>?_)));simp only [List.take_succ_cons,List.take_zero])|((first|(refine zT ?_;intro K' hK')|(refine zG ?_ ?_<;>(try refine zH ?_)<;>intro hguard<;>(try exact zX)<;>try intro K' hK'))<;>((try simp +contextual only [go_sem, hltI, llRows_len, iRows_len, e1, Int.toNat_natCast]);(repeat' first|(with_reducible refine hK' _ _ ?_;clear hK' K')|exact zY|with_reducible refine And.intro ?_ ?_|(with_reducible intro hpath;try exact zP)|(refine hK' _ _ ?_;clear hK' K')|fail);try refine zS ?_))|(refine zE ?_;refine hK _ _ ?_;clear hK K)|(refine zN ?_;try refine zS ?_)|refine zA ?_|(refine zB ?_;intro K hK)|(refine zC ?_ ?_<;>(try refine zH ?_)<;>intro hcond<;>try exact zX)|fail)
          simp only [List.drop_succ_cons, List.drop_zero]
          refine AReg.step rfl rfl (step_append_ref (e := 3) (e2 := 3) (rows := iRows l) _ _ _ _ rfl (by simp only [ty]) (by simp only [ty]) (by simp only [ty]) rfl rfl (fun r hr => iRows_k' hr) rfl (by rw [iRows_len]; omega) (by rw [iRows_len, iC_len, List.length_append, List.length_replicate]; omega)) ?_
          simp only [flat_iRows, Nat.zero_add, hp, iRows_len, ← hlen, List.set_cons_zero]
          refine AReg.rest (fun K hK => ?_)
          repeat' (first|((first|(refine zT ?_;intro K' hK')|(refine zG ?_ ?_<;>(try refine zH ?_)<;>intro hguard<;>(try exact zX)<;>try intro K' hK'))<;>((try simp +contextual only [go_sem, hltI]);(repeat' first|(with_reducible refine hK' _ _ ?_;clear hK' K')|exact zY|with_reducible refine And.intro ?_ ?_|(with_reducible intro hpath;try exact zP)|(refine hK' _ _ ?_;clear hK' K')|fail);try refine zS ?_))|(refine zE ?_;refine hK _ _ ?_;clear hK K)|(refine zN ?_;try refine zS ?_)|refine zA ?_|(refine zB ?_;intro K hK)|(refine zC ?_ ?_<;>(try refine zH ?_)<;>intro hcond<;>try exact zX)|fail)
          refine ⟨i + 1,Weak.headF 1 36 [6, 25, 26, 27] (zc @hB trivial) (zV @iC_in),?_,?_⟩
          · exact hlt
          · omega
        · have ei : i = ls.length := by omega
          subst ei
          have hnl : ¬ ((ls.length : Int) < ls.length) := by omega
          have hz : iC (catT ls ls.length ++ List.replicate (ls.flatten.length - (catT ls ls.length).length) 0) = iC ls.flatten := by rw [catT_all, Nat.sub_self, List.replicate_zero, List.append_nil]
          rw [hz, catT_all]
          repeat' ((fail_if_success (with_reducible refine AWp.atSeq 15 ?_));(fail_if_success (with_reducible refine AWp.atLast 15 ?_));first|((first|(refine zT ?_;intro K' hK')|(refine zG ?_ ?_<;>(try refine zH ?_)<;>intro hguard<;>(try exact zX)<;>try intro K' hK'))<;>((try simp +contextual only [go_sem, hnl]);(repeat' first|(with_reducible refine hK' _ _ ?_;clear hK' K')|exact zY|with_reducible refine And.intro ?_ ?_|(with_reducible intro hpath;try exact zP)|(refine hK' _ _ ?_;clear hK' K')|fail);try refine zS ?_))|(refine zE ?_;refine hK _ _ ?_;clear hK K)|(refine zN ?_;try refine zS ?_)|refine zA ?_|(refine zB ?_;intro K hK)|(refine zC ?_ ?_<;>(try refine zH ?_)<;>intro hcond<;>try exact zX)|fail)
          refine AWp.freezeR 6 0 1 ls.flatten.length ls.flatten.length rfl rfl (iC_trees _) (iRows ls.flatten) (by rw [iRows_len]) (Nat.le_refl _) (fun r hr => iRows_k' hr) (iRows_pre _) ?_
          simp only [List.set_cons_succ, List.set_cons_zero]
          refine zR trivial trivial trivial ?_
          simp [Rets, aret, Blk.cells, ty, Tryz.results106, ares, toT1, toT, borrow, borrow0, capCell, toTree0, tints]
end Go.Proofs.YtfkegnhpihoncaaGreat
