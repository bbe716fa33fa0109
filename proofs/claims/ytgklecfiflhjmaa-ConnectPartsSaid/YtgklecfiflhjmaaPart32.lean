/- A part of the proof. -/
import Derived.Test.YtgklecfiflhjmaaPart02
import Derived.Test.YtgklecfiflhjmaaPart31
import Derived.Test.YtgklecfiflhjmaaPart24
import Derived.Test.YtgklecfiflhjmaaPart11
import Derived.Test.YtgklecfiflhjmaaPart25
import Derived.Test.YtgklecfiflhjmaaLayerC
import Derived.Test.YtgklecfiflhjmaaPart13
import Derived.Test.YtgklecfiflhjmaaPart22
import Derived.Test.YtgklecfiflhjmaaPart16
import Derived.Test.YtgklecfiflhjmaaPart21
import Derived.Test.YtgklecfiflhjmaaPart10
import Derived.Test.YtgklecfiflhjmaaPart29
import Derived.Test.YtgklecfiflhjmaaPart30
import Derived.Test.YtgklecfiflhjmaaPart12
set_option linter.all false
set_option maxHeartbeats 4000000
set_option maxRecDepth 100000
namespace Go.Proofs.Ytgklecfiflhjmaa
open Go.Sp
structure Emb (E n : Nat) (L : List (Int × Int)) (s : Nat → Nat) (g : Nat → Nat) : Prop where
 len : L.length = E
 perm : PermN (2 * E) s
 lt : ∀ x, x < 2 * E → g x < n
 ends : ∀ k, k < E → L[k]? = some (((g (2 * k) : Nat) : Int), ((g (2 * k + 1) : Nat) : Int))
 keep : ∀ x, x < 2 * E → g (s x) = g x
section
variable {E n : Nat} {L : List (Int × Int)} {s g : Nat → Nat}
end
section
variable {r : R}
end
set_option maxHeartbeats 1000000
def nL (l : List (Int × Int)) : List (Nat × Nat) := l.map fun p => (p.1.toNat, p.2.toNat)
theorem nL_len (l : List (Int × Int)) : (nL l).length = l.length := by simp [nL]
theorem ends_okP {g : G} (hc : checkG g = 0) {p : Int × Int} (hp : p ∈ endsL g.es) : (0 ≤ p.1 ∧ p.1 < g.n) ∧ (0 ≤ p.2 ∧ p.2 < g.n) ∧ p.1 ≤ p.2 := by
 obtain ⟨e, he, rfl⟩ := endsL_mem hp
 have := (checkG_zero.1 hc).2.1 e he
 unfold okE at this
 simp only; omega
structure NG (g : G) (n : Nat) (L : List (Nat × Nat)) : Prop where
 hn : g.n = n
 h1 : 1 ≤ n
 h12 : n ≤ 12
 ends : endsL g.es = LI L
 lt : ∀ p, p ∈ L → p.1 < n ∧ p.2 < n
 len : L.length ≤ 2000
theorem ng_of {g : G} (hc : checkG g = 0) (hl : g.es.length ≤ 40) : NG g g.n.toNat (nL (endsL g.es)) := by
 have h := checkG_zero.1 hc
 have h12 := h.1
 have hin := fun (p : Int × Int) (hp : p ∈ endsL g.es) => ends_okP hc hp
 refine ⟨by omega, by omega, by omega, ?_, fun p hp => ?_, ?_⟩
 ·unfold LI nL
  rw [List.map_map]
  symm
  refine (List.map_congr_left (g := id) fun p hp => ?_).trans (List.map_id _)
  have := hin p hp
  obtain ⟨a, b⟩ := p
  simp only [Function.comp_apply, id] at this ⊢
  ext <;> simp <;> omega
 ·obtain ⟨q, hq, rfl⟩ := List.mem_map.1 hp
  have := hin q hq
  simp only; omega
 ·rw [nL_len]
  exact ends_len hl hc
theorem blocksB_mem {L : List (Nat × Nat)} {n : Nat} (hn : n ≤ 12) (hL : ∀ p, p ∈ L → p.1 < n ∧ p.2 < n) {B : List Nat} (hB : B ∈ blocksB L n) : B ≠ [] ∧ (∀ e, e ∈ B → e < L.length) ∧ B.Pairwise (· < ·) := by
 unfold blocksB at hB
 rw [(isortL_perm _).mem_iff] at hB
 exact outB_mem hn hL hB
theorem allB_len {L : List (Nat × Nat)} {n : Nat} (hn : n ≤ 12) (hL : ∀ p, p ∈ L → p.1 < n ∧ p.2 < n) : (blocksB L n).length ≤ 2 * L.length := by
 unfold blocksB
 rw [(isortL_perm _).length_eq]
 exact outB_len hn hL
def isBr (L : List (Nat × Nat)) (B : List Nat) : Bool := decide (B.length = 1) && decide ((edL L (B.getD 0 0)).1 ≠ (edL L (B.getD 0 0)).2)
def brI (L : List (Nat × Nat)) (bs : List (List Nat)) : List Nat := (bs.filter (isBr L)).map fun B => B.getD 0 0
theorem brI_snoc (L : List (Nat × Nat)) (bs : List (List Nat)) (B : List Nat) : brI L (bs ++ [B]) = if isBr L B = true then brI L bs ++ [B.getD 0 0] else brI L bs := by
 unfold brI
 rw [List.filter_append]
 by_cases h : isBr L B = true <;> simp [h]
theorem brI_len (L : List (Nat × Nat)) (bs : List (List Nat)) : (brI L bs).length ≤ bs.length := by
 unfold brI; rw [List.length_map]; exact List.length_filter_le _ _
theorem oI_get {l : List (List Nat)} {i : Nat} {r : List Nat} (h : l[i]? = some r) : (oI l)[i]? = some (zI r) := by simp [oI, h]
theorem cblocks_ok {g : G} {n : Nat} {L : List (Nat × Nat)} (hg : g.es.length ≤ 40) (hc : checkG g = 0) (h : NG g n L) : ACall Try.prog 45 [tG g] (.t (.slice (llRows (oI (blocksB L n))))) :=
 blocks_ok g n L (by omega) hc h.hn h.h12 h.ends h.lt h.len
theorem Blocks_ok (g : G) (hl : g.es.length ≤ 40) : ACall Try.prog 18 [tG g] (.tup [tlists (if checkG g ≠ 0 then [] else oI (blocksB (nL (endsL g.es)) g.n.toNat)), tint (checkG g)]) := by
 have hC := Check_ok g (by omega)
 by_cases hc : checkG g = 0
 ·have hB := cblocks_ok hl hc (ng_of hc hl)
  rw [if_neg (by omega), hc]
  rw [hc] at hC
  generalize blocksB (nL (endsL g.es)) g.n.toNat = bs at *
  obtain ⟨n, es⟩ := g
  refine ACall.of_body Try.func18 rfl (by kernel_rfl) ?_
  simp only [entry, Try.ntmps18, tG]
  refine zU ?_
  refine zR trivial (zc hC (zc hB trivial)) trivial ?_
  simp [Rets, aret, Blk.cells, ty, Try.results18, ares, toT1, toT, borrow, borrow0, capCell, toTree0, tint, tlists]
 ·rw [if_pos hc]
  generalize checkG g = E at *
  obtain ⟨n, es⟩ := g
  refine ACall.of_body Try.func18 rfl (by kernel_rfl) ?_
  simp only [entry, Try.ntmps18, tG]
  refine zU ?_
  refine zR (zc @hc trivial) (zc hC trivial) trivial ?_
  simp [Rets, aret, Blk.cells, ty, Try.results18, ares, toT1, toT, borrow, borrow0, capCell, toTree0, tint, tlists, llRows]
theorem Bridges_ok (g : G) (hl : g.es.length ≤ 40) : ACall Try.prog 12 [tG g] (.tup [tints (if checkG g ≠ 0 then [] else zI (brI (nL (endsL g.es)) (blocksB (nL (endsL g.es)) g.n.toNat))), tint (checkG g)]) := by
 have hC := Check_ok g (by omega)
 by_cases hc : checkG g = 0
 ·have hN := ng_of hc hl
  have hB := cblocks_ok hl hc hN
  have hE := cends_ok g (by omega) hc
  have hbl := allB_len hN.h12 hN.lt
  have hbm := fun B hB => blocksB_mem hN.h12 hN.lt (B := B) hB
  have hLl := hN.len
  rw [hN.ends] at hE
  rw [if_neg (by omega), hc]
  rw [hc] at hC
  generalize nL (endsL g.es) = L at *
  generalize blocksB L g.n.toNat = bs at *
  clear hN
  obtain ⟨n, es⟩ := g
  refine ACall.of_body Try.func12 rfl (by kernel_rfl) ?_
  simp only [entry, Try.ntmps12, tG]
  refine zU ?_
  refine zR (zc @llRows_len (zc @oI_len trivial)) (zc hC (zc hE (zc hB trivial))) trivial ?_
  refine AWp.weak (Weak.opens ((fun t f => [f, f, f, f, f, f, t, f, f, f, f, f, f, f, f, f, f, f, f, f, f, f, f, f, f, f, f, f, f, f, f, f, f, f, f, f, f, f, f, f, f, f, f, f, f, f, f, f]) true false) 1 (by first | omega | simp)) ?_
  simp only [openS, openV, List.length_cons, List.length_nil, List.length_append, Nat.reduceAdd, List.cons_append, List.nil_append]
  refine AWp.loopS (α:=Nat) 48 (fun i=>[(5,.c (.slice (pRows (LI L)) .none)),(6,.c (.slice (iRows (zI (brI L (bs.take i)))) (.chain 1))),(18,.c (.slice (llRows (oI bs)) .none)),(19,.c (.int .i64 (bs.length : Int))),(20,.c (.int .i64 (i : Int)))]) (fun i=>[.box [.int .i64 n, .slice (eRows es) .none], .chain (brI L (bs.take i)).length 1]) (fun i=>i ≤ bs.length) (fun i=>bs.length - i) (0) (hk:=Weak.headL 2 48 [5, 6, 18, 19, 20] zW) (h0:=?_) (round:=fun i hI=>?_)
  ·exact Nat.zero_le _
  ·have hi : i ≤ bs.length := hI
   clear hI
   by_cases hlt : i < bs.length
   ·have hltI : (i : Int) < (bs.length : Int) := by omega
    have e0 := List.getElem?_eq_getElem hlt
    have e1 := llRows_get (oI_get e0)
    obtain ⟨m1, m2, _⟩ := hbm _ (List.getElem_mem hlt)
    have hsn : bs.take (i + 1) = bs.take i ++ [bs[i]] := List.take_succ_eq_append_getElem hlt
    have hbr := brI_snoc L (bs.take i) bs[i]
    have hbl2 := brI_len L (bs.take i)
    rw [← hsn] at hbr
    have htl : (bs.take i).length ≤ i := by rw [List.length_take]; omega
    generalize bs[i] = B at *
    obtain ⟨x, hx0⟩ : ∃ x, B[0]? = some x := ⟨_, List.getElem?_eq_getElem (List.length_pos_iff.2 m1)⟩
    have hgd : B.getD 0 0 = x := by rw [List.getD_eq_getElem?_getD, hx0]; rfl
    have hx := m2 x (List.mem_of_getElem? hx0)
    have e2 := zI_get hx0
    have e3 := LI_get (List.getElem?_eq_getElem hx)
    have hxI : (x : Int) < (L.length : Int) := by omega
    have hpos : (0 : Int) < (B.length : Int) := by have := List.length_pos_iff.2 m1; omega
    have hed : edL L x = L[x] := by unfold edL; rw [List.getD_eq_getElem?_getD, List.getElem?_eq_getElem hx]; rfl
    unfold isBr at hbr
    simp only [hgd, hed] at hbr
    generalize L[x] = p at *
    by_cases h1 : B.length = 1
    ·have h1I : (B.length : Int) = 1 := by omega
     by_cases h2 : p.1 = p.2
     ·rw [if_neg (by simp [h2])] at hbr
      have h2I : (p.1 : Int) = (p.2 : Int) := by omega
      repeat' (first|((first|(refine zT ?_;intro K' hK')|(refine zG ?_ ?_<;>(try refine zH ?_)<;>intro hguard<;>(try exact zX)<;>try intro K' hK'))<;>((try simp +contextual only [go_sem, hltI, e1, e2, e3, hxI, hpos, h1I, h2I, iRows_len, zI_len, pRows_len, LI_len, Int.toNat_natCast, Nat.mul_one]);(repeat' first|(with_reducible refine hK' _ _ ?_;clear hK' K')|exact zY|with_reducible refine And.intro ?_ ?_|(with_reducible intro hpath;try exact zP)|(refine hK' _ _ ?_;clear hK' K')|fail);try refine zS ?_))|(refine zE ?_;refine hK _ _ ?_;clear hK K)|(refine zN ?_;try refine zS ?_)|refine zA ?_|(refine zB ?_;intro K hK)|(refine zC ?_ ?_<;>(try refine zH ?_)<;>intro hcond<;>try exact zX)|fail)
      rw [← hbr]
      refine ⟨i + 1,Weak.headN 2 48 [5, 6, 18, 19, 20] zW,?_,?_⟩
      ·exact hlt
      ·omega
     ·rw [if_pos (by simp [h1, h2])] at hbr
      have h2I : ¬ (p.1 : Int) = (p.2 : Int) := by omega
      have hzs := zI_snoc (brI L (bs.take i)) x
      rw [← hbr] at hzs
      have hln : (brI L (bs.take (i + 1))).length = (brI L (bs.take i)).length + 1 := by rw [hbr]; simp
      generalize brI L (bs.take i) = d at *
      repeat' (first|((first|(refine zT ?_;intro K' hK')|(refine zG ?_ ?_<;>(try refine zH ?_)<;>intro hguard<;>(try exact zX)<;>try intro K' hK'))<;>((try simp +contextual only [go_sem, hltI, e1, e2, e3, hxI, hpos, h1I, h2I, iRows_len, iRows_snoc, zI_len, pRows_len, LI_len, Int.toNat_natCast, Nat.mul_one, chunks, List.range, List.range.loop]);(repeat' first|(with_reducible refine hK' _ _ ?_;clear hK' K')|(with_reducible exact iRows_k' (by assumption))|exact zY|with_reducible refine And.intro ?_ ?_|(with_reducible intro hpath;try exact zP)|(refine hK' _ _ ?_;clear hK' K')|fail);try refine zS ?_))|(refine zE ?_;refine hK _ _ ?_;clear hK K)|(refine zN ?_;try refine zS ?_)|refine zA ?_|(refine zB ?_;intro K hK)|(refine zC ?_ ?_<;>(try refine zH ?_)<;>intro hcond<;>try exact zX)|fail)
      rw [hzs]
      refine ⟨i + 1,Weak.headF 2 48 [5, 6, 18, 19, 20] (zc @hln trivial) zW,?_,?_⟩
      ·exact hlt
      ·omega
    ·have h1I : ¬ (B.length : Int) = 1 := by omega
     rw [if_neg (by simp [h1])] at hbr
     repeat' (first|((first|(refine zT ?_;intro K' hK')|(refine zG ?_ ?_<;>(try refine zH ?_)<;>intro hguard<;>(try exact zX)<;>try intro K' hK'))<;>((try simp +contextual only [go_sem, hltI, e1, e2, e3, hxI, hpos, h1I, iRows_len, zI_len, pRows_len, LI_len, Int.toNat_natCast, Nat.mul_one]);(repeat' first|(with_reducible refine hK' _ _ ?_;clear hK' K')|exact zY|with_reducible refine And.intro ?_ ?_|(with_reducible intro hpath;try exact zP)|(refine hK' _ _ ?_;clear hK' K')|fail);try refine zS ?_))|(refine zE ?_;refine hK _ _ ?_;clear hK K)|(refine zN ?_;try refine zS ?_)|refine zA ?_|(refine zB ?_;intro K hK)|(refine zC ?_ ?_<;>(try refine zH ?_)<;>intro hcond<;>try exact zX)|fail)
     rw [← hbr]
     refine ⟨i + 1,Weak.headN 2 48 [5, 6, 18, 19, 20] zW,?_,?_⟩
     ·exact hlt
     ·omega
   ·have hnl : ¬ (i : Int) < (bs.length : Int) := by omega
    have ei : i = bs.length := by omega
    subst ei
    rw [List.take_length]
    refine zR (zc @hnl trivial) trivial trivial ?_
    simp [Rets, aret, Blk.cells, ty, Try.results12, ares, toT1, toT, borrow, borrow0, capCell, toTree0, tint, tints]
 ·rw [if_pos hc]
  generalize checkG g = E at *
  obtain ⟨n, es⟩ := g
  refine ACall.of_body Try.func12 rfl (by kernel_rfl) ?_
  simp only [entry, Try.ntmps12, tG]
  refine zU ?_
  refine zR (zc @hc trivial) (zc hC trivial) trivial ?_
  simp [Rets, aret, Blk.cells, ty, Try.results12, ares, toT1, toT, borrow, borrow0, capCell, toTree0, tint, tints, iRows]
end Go.Proofs.Ytgklecfiflhjmaa
