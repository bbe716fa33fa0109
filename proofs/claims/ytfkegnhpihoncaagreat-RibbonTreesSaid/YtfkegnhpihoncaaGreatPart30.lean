/- A part of the proof. -/
import Derived.Test.YtfkegnhpihoncaaGreatPart29
import Derived.Test.YtfkegnhpihoncaaGreatPart11
import Derived.Test.YtfkegnhpihoncaaGreatLayerC
set_option linter.all false
set_option maxHeartbeats 4000000
set_option maxRecDepth 100000
namespace Go.Proofs.YtfkegnhpihoncaaGreat
open Go.Sp
structure RSm (r : R) : Prop where
 es : r.es.length ≤ 40
 ar : r.ar.length < 2 ^ 20
 l : ∀ l, l ∈ r.ar → l.length < 2 ^ 20
theorem ends_len {g : G} (hl : g.es.length ≤ 40) (hc : checkG g = 0) : (endsL g.es).length ≤ 2000 := by
 obtain ⟨_, h2, _⟩ := checkG_zero.1 hc
 have := endsL_len (es := g.es) fun e he => by have := h2 e he; unfold okE at this; omega
 omega
theorem rjoined_ok (g : G) (hl : g.es.length ≤ 40) : ACall Tryz.prog 66 [tG g] (.tup [tpairs (if checkG g ≠ 0 then [] else endsL g.es), tint (joinedE g)]) := by
 have hE := Ends_ok g (by omega)
 have hC := Connected_ok g (by omega)
 unfold joinedE
 by_cases hc : checkG g = 0
 ·rw [if_neg (by omega)] at hE ⊢
  rw [if_neg (by omega)]
  rw [hc, decide_eq_true rfl, Bool.true_and] at hC
  generalize connB g = b at *
  generalize endsL g.es = L at *
  obtain ⟨n, es⟩ := g
  refine ACall.of_body Tryz.func66 rfl (by kernel_rfl) ?_
  simp only [entry, Tryz.ntmps66, tG]
  refine zU ?_
  cases b with
  | true =>
   rw [if_pos rfl]
   refine zR trivial (zc hE (zc hC trivial)) trivial ?_
   simp [Rets, aret, Blk.cells, ty, Tryz.results66, ares, toT1, toT, borrow, borrow0, capCell, toTree0, tint, tpairs]
  | false =>
   rw [if_neg (by simp)]
   refine zR trivial (zc hE (zc hC trivial)) trivial ?_
   simp [Rets, aret, Blk.cells, ty, Tryz.results66, ares, toT1, toT, borrow, borrow0, capCell, toTree0, tint, tpairs]
 ·rw [if_pos hc] at hE ⊢
  rw [if_pos hc]
  generalize checkG g = E at *
  obtain ⟨n, es⟩ := g
  refine ACall.of_body Tryz.func66 rfl (by kernel_rfl) ?_
  simp only [entry, Tryz.ntmps66, tG]
  refine zU ?_
  refine zR (zc @hc trivial) (zc hE trivial) trivial ?_
  simp [Rets, aret, Blk.cells, ty, Tryz.results66, ares, toT1, toT, borrow, borrow0, capCell, toTree0, tint, tpairs, pRows]
theorem rchecked_ok (r : R) (hr : RSm r) : ACall Tryz.prog 49 [tR r] (.tup [tpairs (if ribE r ≠ 0 then [] else endsL r.es), tint (ribE r)]) := by
 have hJ := rjoined_ok r.g hr.es
 by_cases hj : joinedE r.g = 0
 case neg =>
  have e : ribE r = joinedE r.g := by unfold ribE; rw [if_pos hj]
  rw [e, if_pos hj]
  have hL : ∃ L, (if checkG r.g ≠ 0 then [] else endsL r.g.es) = L := ⟨_, rfl⟩
  obtain ⟨L, hL⟩ := hL
  rw [hL] at hJ
  generalize joinedE r.g = E at *
  obtain ⟨n, es, ar⟩ := r
  refine ACall.of_body Tryz.func49 rfl (by kernel_rfl) ?_
  simp only [entry, Tryz.ntmps49, tR]
  refine zU ?_
  refine zR (zc @hj trivial) (zc hJ trivial) trivial ?_
  simp [Rets, aret, Blk.cells, ty, Tryz.results49, ares, toT1, toT, borrow, borrow0, capCell, toTree0, tint, tpairs, pRows]
 have hc : checkG r.g = 0 := by
  unfold joinedE at hj
  by_cases h : checkG r.g = 0
  ·exact h
  ·rw [if_pos h] at hj; exact absurd hj h
 have h12 := (checkG_zero.1 hc).1
 rw [if_neg (by omega), hj] at hJ
 have hlen := ends_len (g := r.g) hr.es hc
 have hat : ∀ h, h < 2 * (endsL r.es).length → 0 ≤ atL (endsL r.es) h ∧ atL (endsL r.es) h < (r.n.toNat : Nat) := fun h hh => by
  have h12' : 1 ≤ r.n := h12.1
  have := atL_range hc hh; omega
 have hn : r.n = (r.n.toNat : Nat) := by have h12' : 1 ≤ r.n := h12.1; omega
 have hnb : r.n ≤ 12 := h12.2
 have hA := hr.ar
 have hLl := hr.l
 have eR : ribE r = if (r.ar.length : Int) ≠ r.n then 8 else chkGo (endsL r.es) (2 * (endsL r.es).length) 0 r.ar := by unfold ribE; rw [if_neg (by omega)]
 rw [eR]
 have hH := halves_ok (endsL r.es) r.n.toNat (by omega) (by have : (endsL r.es).length ≤ 2000 := hlen; omega) hat
 rw [← hn] at hH
 clear hr hj hc h12 hat eR
 obtain ⟨n, es, ar⟩ := r
 simp only [R.g] at hJ hlen hH hn hnb hA hLl ⊢
 generalize endsL es = L at *
 generalize hk : n.toNat = k at *
 subst hn
 refine ACall.of_body Tryz.func49 rfl (by kernel_rfl) ?_
 simp only [entry, Tryz.ntmps49, tR]
 refine zU ?_
 by_cases hlen2 : ar.length = k
 case neg =>
  have hI : ¬ ((ar.length : Int) = k) := by omega
  rw [if_pos hI]
  refine zR (zc @llRows_len (zc @hI trivial)) (zc hJ trivial) trivial ?_
  simp [Rets, aret, Blk.cells, ty, Tryz.results49, ares, toT1, toT, borrow, borrow0, capCell, toTree0, tint, tpairs, pRows]
 have hI : (ar.length : Int) = k := by omega
 rw [if_neg (show ¬ ((ar.length : Int) ≠ (k : Int)) by omega)]
 refine zR (zc @llRows_len (zc @hI (zc @halvesL_len trivial))) (zc hJ (zc hH trivial)) trivial ?_
 refine AWp.loopS (α:=Nat) 48 (fun i=>[(1,.c (.ptr 0 0)),(4,.c (.slice (pRows L) .none)),(29,.c (.slice (llRows (halvesL L k (2 * L.length))) .none)),(30,.c (.int .i64 (k : Int))),(31,.c (.int .i64 (i : Int)))]) (fun i=>[.box [.int .i64 (k : Int), .slice (eRows es) .none, .slice (llRows ar) .none]]) (fun i=>i ≤ k ∧ chkGo L (2 * L.length) 0 ar = chkGo L (2 * L.length) i (ar.drop i)) (fun i=>k - i) (0) (hk:=Weak.headL 1 48 [1, 4, 29, 30, 31] zW) (h0:=?_) (round:=fun i hI=>?_)
 ·exact ⟨Nat.zero_le _, rfl⟩
 ·obtain ⟨hi, hI2⟩ := hI
  by_cases hlt : i < k
  ·have hltI : (i : Int) < k := by omega
   have hil : i < ar.length := by omega
   have e0 := List.getElem?_eq_getElem hil
   have e1 := llRows_get e0
   have e2 := llRows_get (halvesL_get (L := L) (k := 2 * L.length) hlt)
   have hd := List.drop_eq_getElem_cons hil
   have hl := hLl _ (List.getElem_mem hil)
   generalize ar[i] = l at *
   have hol := ownL_len L (i : Int) (2 * L.length)
   have hlist := list_ok l (ownL L (i : Int) (2 * L.length)) (ownL_sorted _ _ _) (by omega) (by omega)
   have hg : chkGo L (2 * L.length) i (l :: ar.drop (i + 1)) = if lstErr l (ownL L (i : Int) (2 * L.length)) ≠ 0 then lstErr l (ownL L (i : Int) (2 * L.length)) else chkGo L (2 * L.length) (i + 1) (ar.drop (i + 1)) := rfl
   rw [← hd, ← hI2] at hg
   generalize lstErr l (ownL L (i : Int) (2 * L.length)) = E at *
   by_cases hE : E = 0
   ·rw [if_neg (by omega)] at hg
    subst hE
    refine zR (zc @hltI (zc @llRows_len (zc @hI (zc @e1 (zc @e2 trivial))))) (zc hlist trivial) trivial ?_
    refine ⟨i + 1,Weak.headN 1 48 [1, 4, 29, 30, 31] zW,?_,?_⟩
    ·exact ⟨hlt, hg⟩
    ·omega
   ·rw [if_pos hE] at hg
    rw [hg, if_pos hE]
    refine zR (zc @hltI (zc @llRows_len (zc @hI (zc @e1 (zc @e2 (zc @hE trivial)))))) (zc hlist trivial) trivial ?_
    simp [Rets, aret, Blk.cells, ty, Tryz.results49, ares, toT1, toT, borrow, borrow0, capCell, toTree0, tint, tpairs, pRows]
  ·have ei : i = k := by omega
   subst ei
   have hz : chkGo L (2 * L.length) 0 ar = 0 := by rw [hI2, List.drop_eq_nil_of_le (by omega)]; rfl
   have hnl : ¬ ((i : Int) < i) := by omega
   rw [hz, if_neg (by omega)]
   refine zR (zc @hnl trivial) trivial trivial ?_
   simp [Rets, aret, Blk.cells, ty, Tryz.results49, ares, toT1, toT, borrow, borrow0, capCell, toTree0, tint, tpairs]
end Go.Proofs.YtfkegnhpihoncaaGreat
