/- A part of the proof. -/
import Derived.Test.YtgklecfiflhjmaaPart27
import Derived.Test.YtgklecfiflhjmaaPart26
import Derived.Test.YtgklecfiflhjmaaLayerC
import Derived.Test.YtgklecfiflhjmaaPart24
import Derived.Test.YtgklecfiflhjmaaPart13
import Derived.Test.YtgklecfiflhjmaaPart16
import Derived.Test.YtgklecfiflhjmaaPart22
set_option linter.all false
set_option maxHeartbeats 4000000
set_option maxRecDepth 100000
namespace Go.Proofs.Ytgklecfiflhjmaa
open Go.Sp
set_option maxHeartbeats 1000000
theorem pk_pt (L : List (Nat × Nat)) {l : List Nat} (hl : ∀ f, f ∈ l → f < L.length) : pkL (LI L) (zI l) = ptE L l := by
 unfold pkL ptE zI
 rw [List.map_map]
 refine List.map_congr_left fun f hf => ?_
 have := hl f hf
 simp only [Function.comp_apply, Int.toNat_natCast]
 unfold LI edL
 rw [List.getD_eq_getElem?_getD, List.getElem?_map, List.getElem?_eq_getElem this, List.getD_eq_getElem?_getD, List.getElem?_eq_getElem this]; rfl
theorem cright_ok (g : G) : ACall Try.prog 26 [tG g] (tbool (smallB g 6 9 && decide (checkG g = 0))) := by
 have hF := FewG_ok g
 by_cases hf : smallB g 6 9 = true
 case neg =>
  rw [Bool.not_eq_true] at hf
  rw [hf] at hF ⊢
  obtain ⟨n, es⟩ := g
  refine ACall.of_body Try.func26 rfl (by kernel_rfl) ?_
  simp only [entry, Try.ntmps26, tG]
  refine zU ?_
  refine zR trivial (zc hF trivial) trivial ?_
  simp [Rets, aret, Blk.cells, ty, Try.results26, ares, toT1, toT, borrow, borrow0, capCell, toTree0, tbool]
 rw [hf] at hF
 have hes := (few_of hf).es
 have hCk := CheckR_ok g (by omega)
 by_cases hc : checkG g = 0
 case neg =>
  rw [hf, decide_eq_false hc]
  generalize checkG g = E at *
  obtain ⟨n, es⟩ := g
  refine ACall.of_body Try.func26 rfl (by kernel_rfl) ?_
  simp only [entry, Try.ntmps26, tG]
  refine zU ?_
  refine zR (zc @hc trivial) (zc hF (zc hCk trivial)) trivial ?_
  simp [Rets, aret, Blk.cells, ty, Try.results26, ares, toT1, toT, borrow, borrow0, capCell, toTree0, tbool]
 rw [hf, decide_eq_true hc]
 rw [hc] at hCk
 obtain ⟨n, es⟩ := g
 refine ACall.of_body Try.func26 rfl (by kernel_rfl) ?_
 simp only [entry, Try.ntmps26, tG]
 refine zU ?_
 refine zR trivial (zc hF (zc hCk trivial)) trivial ?_
 simp [Rets, aret, Blk.cells, ty, Try.results26, ares, toT1, toT, borrow, borrow0, capCell, toTree0, tbool]
section
variable {g : G} {n w : Nat}
end
set_option maxHeartbeats 1000000
theorem parts_cnt {n : Nat} {l : List (Int × Int)} (hl : In12 l) (hn : n ≤ 12) : (partsV (genS l).1 n).length = ncls n (Conn l) := by
 have hF := (uf l hl).ok
 rw [partsV_len]
 unfold rootsL ncls
 congr 1
 refine List.filter_congr fun v hv => ?_
 have hv := List.mem_range.1 hv
 rw [decide_eq_decide]
 constructor
 ·intro h y hy hc
  have h1 := (conn_root hl (u := v) (w := y) (by omega) (by omega)).1 hc
  have h2 := rootF_le hF (n := 12) (v := y) (by omega)
  omega
 ·intro h
  have h1 := rootF_le hF (n := 12) (v := v) (by omega)
  have h2 := root_self hF (by omega) (root_fix hF (u := v) (by omega))
  have := h (rootF (genS l).1 12 v) (by omega) ((conn_root hl (by omega) (by omega)).2 h2.symm)
  omega
def lsN (i k : Nat) : List Nat := (List.range k).filter fun f => decide (f ≠ i)
theorem lsN_succ (i k : Nat) : lsN i (k + 1) = if k = i then lsN i k else lsN i k ++ [k] := by
 unfold lsN
 rw [List.range_succ, List.filter_append]
 by_cases h : k = i <;> simp [h]
theorem lsN_len (i k : Nat) : (lsN i k).length ≤ k := by unfold lsN; exact Nat.le_trans (List.length_filter_le _ _) (by simp)
theorem lsN_mem {i k f : Nat} : f ∈ lsN i k ↔ f < k ∧ f ≠ i := by unfold lsN; rw [List.mem_filter, List.mem_range, decide_eq_true_eq]
theorem lsN_sorted (i k : Nat) : (zI (lsN i k)).Pairwise (· < ·) := by
 unfold zI
 rw [List.pairwise_map]
 exact (List.pairwise_lt_range.filter _).imp fun h => by omega
section
variable {L : List (Nat × Nat)} {n e : Nat}
theorem off_ls : OffE L e (ptE L (lsN e L.length)) := fun p => by
 rw [ptE_mem]
 exact ⟨fun ⟨f, h1, h2⟩ => ⟨f, (lsN_mem.1 h1).1, (lsN_mem.1 h1).2, h2⟩, fun ⟨f, h1, h2, h3⟩ => ⟨f, lsN_mem.2 ⟨h1, h2⟩, h3⟩⟩
theorem less_cnt (hL : ∀ p, p ∈ L → p.1 < n ∧ p.2 < n) (hn : n ≤ 12) (he : e < L.length) : ncls n (Conn (ptE L (lsN e L.length))) = ncls n (Conn (LI L)) + if e ∈ brI L (blocksB L n) then 1 else 0 := by
 have hK := off_ls (L := L) (e := e)
 generalize ptE L (lsN e L.length) = K at *
 have hab := hL _ (edL_mem he)
 have hget : ∀ f, f < L.length → edL L f ∈ L := fun f hf => edL_mem hf
 have e2 : ncls n (Conn (LI L)) = ncls n (Conn (K ++ [(((edL L e).1 : Int), ((edL L e).2 : Int))])) := ncls_congr fun x y _ _ => by
  refine ⟨conn_le fun p hp => ?_, conn_le fun p hp => ?_⟩
  ·obtain ⟨q, hq, rfl⟩ := List.mem_map.1 hp
   obtain ⟨f, hf, rfl⟩ := List.getElem_of_mem hq
   have hE : edL L f = L[f] := by unfold edL; rw [List.getD_eq_getElem?_getD, List.getElem?_eq_getElem hf]; rfl
   rw [List.mem_append]
   by_cases q : f = e
   ·subst q
    right; rw [hE]; simp
   ·left
    exact (hK _).2 ⟨f, hf, q, by rw [hE]⟩
  ·rcases List.mem_append.1 hp with hp | hp
   ·obtain ⟨f, f1, _, rfl⟩ := (hK p).1 hp
    exact List.mem_map.2 ⟨_, hget f f1, rfl⟩
   ·rw [List.mem_singleton.1 hp]; exact List.mem_map.2 ⟨_, hget e he, rfl⟩
 have hb := brI_mem hn hL (e := e)
 rw [e2]
 by_cases hC : Conn K (edL L e).1 (edL L e).2
 ·rw [if_neg (fun q => (off_circ hK (hb.1 q).1).2 (hb.1 q).2 hC), ncls_snoc_in hC]; rfl
 ·have hnl : NL L e := ⟨he, fun q => hC (by rw [q]; exact .refl)⟩
  rw [if_pos (hb.2 ⟨hnl, (off_circ hK hnl).1 hC⟩)]
  have := ncls_snoc_new hab.1 hab.2 hC
  omega
end
end Go.Proofs.Ytgklecfiflhjmaa
