/- A part of the proof. -/
import Derived.Test.YtgklecfiflhjmaaPart28
import Derived.Test.YtgklecfiflhjmaaPart24
import Derived.Test.YtgklecfiflhjmaaLayerC
import Derived.Test.YtgklecfiflhjmaaPart19
set_option linter.all false
set_option maxHeartbeats 4000000
set_option maxRecDepth 100000
namespace Go.Proofs.Ytgklecfiflhjmaa
open Go.Sp
theorem Removes_law (g : G) : ACall Try.prog 7 [tG g] (tbool true) := by
 have hR := cright_ok g
 have hA := cawake_ok
 by_cases hr : (smallB g 6 9 && decide (checkG g = 0)) = true
 case neg =>
  rw [Bool.not_eq_true] at hr
  rw [hr] at hR
  obtain ⟨n, es⟩ := g
  refine ACall.of_body Try.func7 rfl (by kernel_rfl) ?_
  simp only [entry, Try.ntmps7, tG]
  refine zU ?_
  refine zR trivial (zc hR (zc hA trivial)) trivial ?_
  simp [Rets, aret, Blk.cells, ty, Try.results7, ares, toT1, toT, borrow, borrow0, capCell, toTree0, tbool]
 rw [hr] at hR
 rw [Bool.and_eq_true, decide_eq_true_eq] at hr
 obtain ⟨hf, hc⟩ := hr
 have hfw := few_of hf
 have hes := hfw.es
 have h12 := (checkG_zero.1 hc).1
 have hsz := hfw.sz hc
 have hng := ng_of hc hes
 have hLl : (nL (endsL g.es)).length = (endsL g.es).length := nL_len _
 have hS := SizeR_ok g (by have := ends_len hes hc; omega) (by omega) (fun e he => by have := (checkG_zero.1 hc).2.1 e he; unfold okE at this; omega)
 have hB := Bridges_ok g hes
 have hCm := Components_ok g (by omega)
 have hP := fun l hl => cParts_ok g l hes hl
 generalize nL (endsL g.es) = L at *
 have hbs := fun e he => less_cnt (L := L) (n := g.n.toNat) (e := e) hng.lt hng.h12 he
 have hbr : (brI L (blocksB L g.n.toNat)).length < 2 ^ 20 := by
  have := List.length_filter_le (isBr L) (blocksB L g.n.toNat)
  have h2 := allB_len hng.h12 hng.lt
  unfold brI; rw [List.length_map]; omega
 have hCt := fun e => Contains_ok (zI (brI L (blocksB L g.n.toNat))) e (by rw [zI_len]; omega)
 have hps : (partsV (genS (pairsE g.es)).1 g.n.toNat).length = ncls g.n.toNat (Conn (LI L)) := by
  rw [parts_cnt (pairs_in12 hc) hng.h12]
  exact ncls_congr fun x y _ _ => by rw [pairs_conn hc, hng.ends]
 have hpl := (partsV_sm (genS (pairsE g.es)).1 g.n.toNat (by omega)).1
 have hmI : (endsL g.es).length = L.length := hLl.symm
 have hlq : ∀ e, ∃ Q : List (List Int), Q.length = ncls g.n.toNat (Conn (ptE L (lsN e L.length))) ∧ Q.length < 2 ^ 30 ∧ ACall Try.prog 32 [tG g, tints (zI (lsN e L.length))] (.tup [tlists Q, tint 0]) := fun e => by
  have hmem : ∀ x, x ∈ zI (lsN e L.length) → 0 ≤ x ∧ x < (endsL g.es).length := fun x hx => by
   obtain ⟨f, hf, rfl⟩ := List.mem_map.1 hx
   have := (lsN_mem.1 hf).1
   omega
  have hll := lsN_len e L.length
  have h1 := hP (zI (lsN e L.length)) (by rw [zI_len]; omega)
  have he0 : edgE g (zI (lsN e L.length)) = 0 := by
   unfold edgE
   rw [if_neg (by omega)]
   exact subE_zero hmem (lsN_sorted _ _) (fun w h => by cases h)
  rw [he0, if_neg (by omega), hng.ends, pk_pt L fun f hf => (lsN_mem.1 hf).1] at h1
  have h12' : In12 (ptE L (lsN e L.length)) := fun p hp => by
   have := pkL_in12 hc hmem
   rw [hng.ends, pk_pt L fun f hf => (lsN_mem.1 hf).1] at this
   exact this p hp
  refine ⟨_, parts_cnt h12' hng.h12, ?_, h1⟩
  rw [partsV_len]
  have := rootsL_len (genS (ptE L (lsN e L.length))).1 g.n.toNat
  omega
 rw [if_neg (by omega), hc] at hB hCm
 rw [hmI] at hS
 generalize hbI : brI L (blocksB L g.n.toNat) = br at *
 generalize partsV (genS (pairsE g.es)).1 g.n.toNat = ps at *
 have hm9 : L.length ≤ 9 := by omega
 generalize hm : L.length = m at *
 clear hP hng hc hf hfw hLl hmI
 obtain ⟨nI, es⟩ := g
 simp only at hbs hlq hps
 generalize nI.toNat = n at *
 refine ACall.of_body Try.func7 rfl (by kernel_rfl) ?_
 simp only [entry, Try.ntmps7, tG]
 refine zU ?_
 refine zR trivial (zc hR (zc hA (zc hB (zc hCm (zc hS trivial))))) trivial ?_
 refine AWp.loopS (α:=Nat) 86 (fun i=>[(1,.c (.ptr 0 0)),(3,.c (.slice (iRows (zI br)) .none)),(5,.c (.slice (llRows ps) .none)),(7,.c (.int .i64 (m : Int))),(33,.c (.int .i64 (m : Int))),(34,.c (.int .i64 (i : Int)))]) (fun i=>[.box [.int .i64 nI, .slice (eRows es) .none]]) (fun i=>i ≤ m) (fun i=>m - i) (0) (hk:=Weak.headL 1 86 [1, 3, 5, 7, 33, 34] zW) (h0:=?_) (round:=fun i hI=>?_)
 ·exact Nat.zero_le _
 ·have hi : i ≤ m := hI
  clear hI
  by_cases hil : i < m
  ·have hiI : (i : Int) < (m : Int) := by omega
   refine zR (zc @hiI trivial) trivial trivial ?_
   refine AWp.weak (Weak.opens ((fun t f => [f, f, f, f, f, f, f, f, f, t, f, f, f, f, f, f, f, f, f, f, f, f, f, f, f, f, f, f, f, f, f, f, f, f, f, f, f, f, f, f, f, f, f, f, f, f, f, f, f, f, f, f, f, f, f, f, f, f, f, f, f, f, f, f, f, f, f, f, f, f, f, f, f, f, f, f, f, f, f, f, f, f, f, f, f, f]) true false) 1 (by first | omega | simp)) ?_
   simp only [openS, openV, List.length_cons, List.length_nil, List.length_append, Nat.reduceAdd, List.cons_append, List.nil_append]
   have hl0 : lsN i 0 = [] := rfl
   rw [show ([] : List (List Tree)) = iRows (zI (lsN i 0)) by rw [hl0]; rfl]
   refine AWp.loopS (α:=Nat) 86 (fun k=>[(1,.c (.ptr 0 0)),(3,.c (.slice (iRows (zI br)) .none)),(5,.c (.slice (llRows ps) .none)),(7,.c (.int .i64 (m : Int))),(8,.c (.int .i64 (i : Int))),(9,.c (.slice (iRows (zI (lsN i k))) (.chain 1))),(33,.c (.int .i64 (m : Int))),(34,.c (.int .i64 (i : Int))),(37,.c (.int .i64 (m : Int))),(38,.c (.int .i64 (k : Int)))]) (fun k=>[.box [.int .i64 nI, .slice (eRows es) .none], .chain (lsN i k).length 1]) (fun k=>k ≤ m) (fun k=>m - k) (0) (hk:=Weak.headL 2 86 [1, 3, 5, 7, 8, 9, 33, 34, 37, 38] zW) (h0:=?_) (round:=fun k hI=>?_)
   ·exact Nat.zero_le _
   ·have hk : k ≤ m := hI
    clear hI
    by_cases hkl : k < m
    ·have hkI : (k : Int) < (m : Int) := by omega
     have hsu := lsN_succ i k
     have hll := lsN_len i k
     by_cases hki : k = i
     ·rw [if_pos hki] at hsu
      have hkiI : (k : Int) = (i : Int) := by omega
      repeat' (first|((first|(refine zT ?_;intro K' hK')|(refine zG ?_ ?_<;>(try refine zH ?_)<;>intro hguard<;>(try exact zX)<;>try intro K' hK'))<;>((try simp +contextual only [go_sem, hkI, hiI, hkiI, Int.toNat_natCast]);(repeat' first|(with_reducible refine hK' _ _ ?_;clear hK' K')|exact zY|with_reducible refine And.intro ?_ ?_|(with_reducible intro hpath;try exact zP)|(refine hK' _ _ ?_;clear hK' K')|fail);try refine zS ?_))|(refine zE ?_;refine hK _ _ ?_;clear hK K)|(refine zN ?_;try refine zS ?_)|refine zA ?_|(refine zB ?_;intro K hK)|(refine zC ?_ ?_<;>(try refine zH ?_)<;>intro hcond<;>try exact zX)|fail)
      rw [← hsu, ← hkiI]
      refine ⟨k + 1,Weak.headN 2 86 [1, 3, 5, 7, 8, 9, 33, 34, 37, 38] zW,?_,?_⟩
      ·exact hkl
      ·omega
     ·rw [if_neg hki] at hsu
      have hkiI : ¬ (k : Int) = (i : Int) := by omega
      have hzs := zI_snoc (lsN i k) k
      rw [← hsu] at hzs
      have hln : (lsN i (k + 1)).length = (lsN i k).length + 1 := by rw [hsu]; simp
      generalize lsN i k = d at *
      repeat' (first|((first|(refine zT ?_;intro K' hK')|(refine zG ?_ ?_<;>(try refine zH ?_)<;>intro hguard<;>(try exact zX)<;>try intro K' hK'))<;>((try simp +contextual only [go_sem, hkI, hkiI, iRows_len, iRows_snoc, zI_len, Int.toNat_natCast, chunks, List.range, List.range.loop]);(repeat' first|(with_reducible refine hK' _ _ ?_;clear hK' K')|(with_reducible exact iRows_k' (by assumption))|exact zY|with_reducible refine And.intro ?_ ?_|(with_reducible intro hpath;try exact zP)|(refine hK' _ _ ?_;clear hK' K')|fail);try refine zS ?_))|(refine zE ?_;refine hK _ _ ?_;clear hK K)|(refine zN ?_;try refine zS ?_)|refine zA ?_|(refine zB ?_;intro K hK)|(refine zC ?_ ?_<;>(try refine zH ?_)<;>intro hcond<;>try exact zX)|fail)
      rw [hzs]
      refine ⟨k + 1,Weak.headF 2 86 [1, 3, 5, 7, 8, 9, 33, 34, 37, 38] (zc @hln trivial) zW,?_,?_⟩
      ·exact hkl
      ·omega
    ·have hnl : ¬ (k : Int) < (m : Int) := by omega
     have ek : k = m := by omega
     subst ek
     obtain ⟨Q, hQ1, hQ2, hQ3⟩ := hlq i
     have hcn := hbs i (by omega)
     rw [← hQ1, ← hps] at hcn
     have hCi := hCt (i : Int)
     have hbm : (i : Int) ∈ zI br ↔ i ∈ br := by
      unfold zI; rw [List.mem_map]
      exact ⟨fun ⟨a, ha, e⟩ => by rw [show i = a by omega]; exact ha, fun h => ⟨i, h, rfl⟩⟩
     clear hlq hbs hCt hQ1
     by_cases hb : i ∈ br
     ·rw [decide_eq_true (hbm.2 hb)] at hCi
      rw [if_pos hb] at hcn
      have x1 : (Q.length : Int) = (ps.length : Int) + 1 := by omega
      repeat' (first|((first|(refine zT ?_;intro K' hK')|(refine zG ?_ ?_<;>(try refine zH ?_)<;>intro hguard<;>(try exact zX)<;>try intro K' hK'))<;>((try simp +contextual only [go_sem, hnl, llRows_len, x1]);(repeat' first|(with_reducible refine hK' _ _ ?_;clear hK' K')|((with_reducible first|refine zK hQ3 ?_|refine zK hCi ?_);try simp +contextual only [go_sem, hnl, llRows_len, x1])|exact zY|with_reducible refine And.intro ?_ ?_|(with_reducible intro hpath;try exact zP)|(refine hK' _ _ ?_;clear hK' K')|fail);try refine zS ?_))|(refine zE ?_;refine hK _ _ ?_;clear hK K)|(refine zN ?_;try refine zS ?_)|refine zA ?_|(refine zB ?_;intro K hK)|(refine zC ?_ ?_<;>(try refine zH ?_)<;>intro hcond<;>try exact zX)|fail)
      refine ⟨i + 1,Weak.headN 1 86 [1, 3, 5, 7, 33, 34] zW,?_,?_⟩
      ·exact hil
      ·omega
     ·rw [decide_eq_false (fun h => hb (hbm.1 h))] at hCi
      rw [if_neg hb] at hcn
      have x1 : (Q.length : Int) = (ps.length : Int) := by omega
      have x2 : ¬ (ps.length : Int) = (ps.length : Int) + 1 := by omega
      have x3 : ¬ (ps.length : Int) + 1 < (ps.length : Int) := by omega
      have x4 : ¬ (ps.length : Int) < (ps.length : Int) := by omega
      repeat' (first|((first|(refine zT ?_;intro K' hK')|(refine zG ?_ ?_<;>(try refine zH ?_)<;>intro hguard<;>(try exact zX)<;>try intro K' hK'))<;>((try simp +contextual only [go_sem, hnl, llRows_len, x1, x2, x3, x4]);(repeat' first|(with_reducible refine hK' _ _ ?_;clear hK' K')|((with_reducible first|refine zK hQ3 ?_|refine zK hCi ?_);try simp +contextual only [go_sem, hnl, llRows_len, x1, x2, x3, x4])|exact zY|with_reducible refine And.intro ?_ ?_|(with_reducible intro hpath;try exact zP)|(refine hK' _ _ ?_;clear hK' K')|fail);try refine zS ?_))|(refine zE ?_;refine hK _ _ ?_;clear hK K)|(refine zN ?_;try refine zS ?_)|refine zA ?_|(refine zB ?_;intro K hK)|(refine zC ?_ ?_<;>(try refine zH ?_)<;>intro hcond<;>try exact zX)|fail)
      refine ⟨i + 1,Weak.headN 1 86 [1, 3, 5, 7, 33, 34] zW,?_,?_⟩
      ·exact hil
      ·omega
  ·have hnl : ¬ (i : Int) < (m : Int) := by omega
   refine zR (zc @hnl trivial) (zc hA trivial) trivial ?_
   simp [Rets, aret, Blk.cells, ty, Try.results7, ares, toT1, toT, borrow, borrow0, capCell, toTree0, tbool]
set_option maxHeartbeats 1000000
structure BlkA (L : List (Nat × Nat)) (bs : List (List Nat)) : Prop where
 mem : ∀ e, e ∈ bs.flatten ↔ e < L.length
 nd : bs.flatten.Nodup
 ne : ∀ B, B ∈ bs → B ≠ []
 cls : ∀ B, B ∈ bs → ∀ e, e ∈ B → ∀ f, f ∈ B ↔ Rel L e f
theorem blkA_of {L : List (Nat × Nat)} {n : Nat} (hn : n ≤ 12) (hL : ∀ p, p ∈ L → p.1 < n ∧ p.2 < n) : BlkA L (blocksB L n) := by
 obtain ⟨nb, h1, h2⟩ := blkF hn hL
 have hp : (blocksB L n).Perm (loopsB L ++ nb) := by
  unfold blocksB
  rw [← h1]; exact isortL_perm _
 have hpf := hp.flatten
 have hloop : ∀ e, e ∈ (loopsB L).flatten ↔ e < L.length ∧ (edL L e).1 = (edL L e).2 := fun e => by
  rw [List.mem_flatten]
  constructor
  ·rintro ⟨B, hB, he⟩
   obtain ⟨x, rfl, x1, x2⟩ := loopsB_mem.1 hB
   rw [List.mem_singleton.1 he]; exact ⟨x1, x2⟩
  ·intro he
   exact ⟨[e], loopsB_mem.2 ⟨e, rfl, he⟩, by simp⟩
 refine ⟨fun e => ?_, ?_, fun B hB => ?_, fun B hB e he f => ?_⟩
 ·rw [hpf.mem_iff, List.flatten_append, List.mem_append, hloop, h2.mem]
  unfold NL
  constructor
  ·rintro (q | q) <;> exact q.1
  ·intro q
   by_cases hl : (edL L e).1 = (edL L e).2
   ·exact .inl ⟨q, hl⟩
   ·exact .inr ⟨q, hl⟩
 ·rw [hpf.nodup_iff, List.flatten_append, List.nodup_append]
  refine ⟨?_, h2.nd, fun x q1 y q2 e => ?_⟩
  ·have hx : (loopsB L).flatten = (List.range L.length).filter fun e => decide ((edL L e).1 = (edL L e).2) := by
    unfold loopsB
    generalize (List.range L.length).filter _ = l
    induction l with
    | nil => rfl
    | cons a l ih => rw [List.map_cons, List.flatten_cons, ih]; rfl
   rw [hx]; exact List.nodup_range.filter _
  ·subst e
   exact ((h2.mem x).1 q2).2 ((hloop x).1 q1).2
 ·rw [hp.mem_iff, List.mem_append] at hB
  rcases hB with hB | hB
  ·obtain ⟨x, rfl, _⟩ := loopsB_mem.1 hB
   simp
  ·exact h2.ne B hB
 ·rw [hp.mem_iff, List.mem_append] at hB
  rcases hB with hB | hB
  ·obtain ⟨x, rfl, x1, x2⟩ := loopsB_mem.1 hB
   rw [List.mem_singleton.1 he, List.mem_singleton]
   constructor
   ·rintro rfl; exact Rel.refl
   ·rintro (q | ⟨C, c1, c2, c3⟩)
    ·exact q.symm
    ·exact c1.loop c2 x2 f c3
  ·exact h2.cls hB he f
theorem take_flatten_sub (bs : List (List Nat)) (k : Nat) : (bs.take k).flatten.Sublist bs.flatten := by
 have h : (bs.take k).flatten.Sublist ((bs.take k).flatten ++ (bs.drop k).flatten) := List.sublist_append_left _ _
 rwa [← List.flatten_append, List.take_append_drop] at h
section
variable {L : List (Nat × Nat)} {n : Nat}
theorem circ_conn {C : Nat → Bool} (h : Circ L C) {f : Nat} (hf : C f = true) {l : List Nat} (hl : ∀ g, C g = true → g ≠ f → g ∈ l) : Conn (ptE L l) (edL L f).1 (edL L f).2 := by
 classical
 refine Classical.byContradiction fun hn => ?_
 have hev := h.ev (fun x => decide (Conn (ptE L l) (edL L f).1 x))
 unfold cross at hev
 rw [xsb_one (i := f) (fun g hg => ?_) (h.sup f hf), hf, Bool.true_and] at hev
 ·unfold crs at hev
  simp only at hev
  rw [decide_eq_true Conn.refl, decide_eq_false hn] at hev
  cases hev
 ·cases hC : C g with
  | false => rfl
  | true =>
   have hm := hl g hC hg
   rw [Bool.true_and]
   unfold crs
   simp only
   rw [decide_eq_decide.2 (show Conn (ptE L l) (edL L f).1 (edL L g).1 ↔ Conn (ptE L l) (edL L f).1 (edL L g).2 from ⟨sel_conn hm (.inl rfl) (.inr rfl), sel_conn hm (.inr rfl) (.inl rfl)⟩), Bool.xor_self]
theorem ptE_one (L : List (Nat × Nat)) (f : Nat) : ptE L [f] = [(((edL L f).1 : Int), ((edL L f).2 : Int))] := rfl
theorem rank_add {l1 : List Nat} (hL : ∀ p, p ∈ L → p.1 < n ∧ p.2 < n) : ∀ l2 : List Nat, (l1 ++ l2).Nodup → (∀ f, f ∈ l1 ++ l2 → f < L.length) → (∀ C, Circ L C → (∀ g, C g = true → g ∈ l1 ++ l2) → ∀ x y, C x = true → C y = true → x ∈ l2 → y ∉ l1) →
  ncls n (Conn (ptE L (l1 ++ l2))) + n = ncls n (Conn (ptE L l1)) + ncls n (Conn (ptE L l2)) := by
 intro l2
 refine snoc_ind (P := fun l2 => (l1 ++ l2).Nodup → (∀ f, f ∈ l1 ++ l2 → f < L.length) → (∀ C, Circ L C → (∀ g, C g = true → g ∈ l1 ++ l2) → ∀ x y, C x = true → C y = true → x ∈ l2 → y ∉ l1) →
  ncls n (Conn (ptE L (l1 ++ l2))) + n = ncls n (Conn (ptE L l1)) + ncls n (Conn (ptE L l2))) ?_ ?_ l2
 ·intro _ _ _
  rw [List.append_nil, show ptE L [] = [] from rfl, conn_nil_ncls]
 ·intro l2 f ih hnd hlt hC
  rw [← List.append_assoc] at hnd hlt hC ⊢
  have ih := ih (List.nodup_append.1 hnd).1 (fun g hg => hlt g (List.mem_append_left _ hg)) (fun C h1 h2 x y hx hy hx2 => hC C h1 (fun g hg => List.mem_append_left _ (h2 g hg)) x y hx hy (List.mem_append_left _ hx2))
  have hfl := hlt f (by simp)
  have hfn : f ∉ l1 ++ l2 := fun q => (List.nodup_append.1 hnd).2.2 f q f (by simp) rfl
  have hab := hL _ (edL_mem hfl)
  rw [ptE_append L (l1 ++ l2), ptE_append L l2, ptE_one]
  have key : Conn (ptE L (l1 ++ l2)) (edL L f).1 (edL L f).2 ↔ Conn (ptE L l2) (edL L f).1 (edL L f).2 := by
   constructor
   ·intro hc
    obtain ⟨A, a1, a2, a3⟩ := path_of (P := fun g => g ∈ l1 ++ l2) (fun p hp => by
     obtain ⟨g, g1, rfl⟩ := ptE_mem.1 hp
     exact ⟨g, hlt g (List.mem_append_left _ g1), g1, rfl⟩) hc
    have hAf : A f = false := by
     cases q : A f with
     | false => rfl
     | true => exact absurd (a2 f q) hfn
    obtain ⟨C, c1, c2, c3⟩ := even_in hfl a1 hAf (fun S => by rw [a3]; rfl)
    have hsub : ∀ g, C g = true → g ≠ f → g ∈ l1 ++ l2 := fun g hg hne => by
     rcases c3 g hg with q | q
     ·exact absurd q hne
     ·exact a2 g q
    refine circ_conn c1 c2 fun g hg hne => ?_
    have := hC C c1 (fun g hg => by
     by_cases q : g = f
     ·rw [q]; simp
     ·exact List.mem_append_left _ (hsub g hg q)) f g c2 hg (by simp)
    rcases List.mem_append.1 (hsub g hg hne) with q | q
    ·exact absurd q this
    ·exact q
   ·exact conn_le fun p hp => by rw [ptE_append]; exact List.mem_append_right _ hp
  by_cases hc : Conn (ptE L l2) (edL L f).1 (edL L f).2
  ·rw [ncls_snoc_in hc, ncls_snoc_in (key.2 hc)]; exact ih
  ·have q1 := ncls_snoc_new hab.1 hab.2 hc
   have q2 := ncls_snoc_new hab.1 hab.2 fun q => hc (key.1 q)
   omega
theorem circ_acyc {C : Nat → Bool} (h : Circ L C) : ∀ l : List Nat, (∀ g, C g = true → g ∈ l) → ¬ acyc (ptE L l) := by
 intro l
 refine snoc_ind (P := fun l => (∀ g, C g = true → g ∈ l) → ¬ acyc (ptE L l)) ?_ ?_ l
 ·intro hl
  obtain ⟨e, he⟩ := h.ne
  have := hl e he
  cases this
 ·intro l f ih hl ha
  rw [ptE_append, ptE_one, acyc_snoc] at ha
  by_cases hf : C f = true
  ·exact ha.2 (circ_conn h hf fun g hg hne => by
    rcases List.mem_append.1 (hl g hg) with q | q
    ·exact q
    ·exact absurd (List.mem_singleton.1 q) hne)
  ·exact ih (fun g hg => by
    rcases List.mem_append.1 (hl g hg) with q | q
    ·exact q
    ·rw [List.mem_singleton.1 q] at hg; exact absurd hg hf) ha.1
def toStep (L : List (Nat × Nat)) (l : List Nat) (e : Nat) : List Nat := insT (insT l (edL L e).1) (edL L e).2
def toN (L : List (Nat × Nat)) (B : List Nat) : List Nat := B.foldl (toStep L) []
theorem toN_snoc (L : List (Nat × Nat)) (B : List Nat) (e : Nat) : toN L (B ++ [e]) = toStep L (toN L B) e := by simp [toN]
theorem toN_ok (L : List (Nat × Nat)) (B : List Nat) : (toN L B).Nodup ∧ (toN L B).length ≤ 2 * B.length ∧ ∀ x, x ∈ toN L B ↔ ∃ f, f ∈ B ∧ tch L f x := by
 refine snoc_ind (P := fun B => (toN L B).Nodup ∧ (toN L B).length ≤ 2 * B.length ∧ ∀ x, x ∈ toN L B ↔ ∃ f, f ∈ B ∧ tch L f x) ?_ ?_ B
 ·exact ⟨List.nodup_nil, by simp [toN], fun x => by simp [toN]⟩
 ·intro B e ⟨h1, h2, h3⟩
  rw [toN_snoc]
  unfold toStep
  refine ⟨insT_nodup (insT_nodup h1), ?_, fun x => ?_⟩
  ·have a1 := insT_len (insT (toN L B) (edL L e).1) (edL L e).2
   have a2 := insT_len (toN L B) (edL L e).1
   rw [List.length_append, List.length_singleton]; omega
  ·rw [insT_mem, insT_mem, h3 x]
   constructor
   ·rintro ((⟨f, f1, f2⟩ | q) | q)
    ·exact ⟨f, List.mem_append_left _ f1, f2⟩
    ·exact ⟨e, by simp, .inl q.symm⟩
    ·exact ⟨e, by simp, .inr q.symm⟩
   ·rintro ⟨f, f1, f2⟩
    rcases List.mem_append.1 f1 with f1 | f1
    ·exact .inl (.inl ⟨f, f1, f2⟩)
    ·rw [List.mem_singleton.1 f1] at f2
     rcases f2 with q | q
     ·exact .inl (.inr q.symm)
     ·exact .inr q.symm
def ownB (L : List (Nat × Nat)) (B : List Nat) : Int := (B.length : Int) - (toN L B).length + 1
variable {bs : List (List Nat)}
theorem BlkA.lt (h : BlkA L bs) {B : List Nat} (hB : B ∈ bs) {e : Nat} (he : e ∈ B) : e < L.length := (h.mem e).1 (List.mem_flatten.2 ⟨B, hB, he⟩)
theorem BlkA.conn (h : BlkA L bs) {B : List Nat} (hB : B ∈ bs) {x y : Nat} (hx : ∃ f, f ∈ B ∧ tch L f x) (hy : ∃ f, f ∈ B ∧ tch L f y) : Conn (ptE L B) x y := by
 obtain ⟨e, e1, e2⟩ := hx
 obtain ⟨f, f1, f2⟩ := hy
 rcases (h.cls B hB e e1 f).1 f1 with q | ⟨C, c1, c2, c3⟩
 ·subst q; exact sel_conn e1 e2 f2 .refl
 ·refine conn_le (fun p hp => ?_) (c1.conn ⟨e, c2, e2⟩ ⟨f, c3, f2⟩)
  obtain ⟨g, g1, rfl⟩ := ptE_mem.1 hp
  exact ptE_mem.2 ⟨g, (h.cls B hB e e1 g).2 (.inr ⟨C, c1, c2, (mem_selA.1 g1).2⟩), rfl⟩
theorem toN_count (hL : ∀ p, p ∈ L → p.1 < n ∧ p.2 < n) {B : List Nat} (hB : ∀ e, e ∈ B → e < L.length) : (toN L B).length = (List.range n).countP fun v : Nat => decide (degL (v : Int) (ptE L B) ≠ 0) := by
 obtain ⟨t1, _, t3⟩ := toN_ok L B
 rw [List.countP_eq_length_filter]
 refine List.Perm.length_eq ((List.perm_ext_iff_of_nodup t1 (List.nodup_range.filter _)).2 fun x => ?_)
 rw [t3, List.mem_filter, List.mem_range, decide_eq_true_eq, Ne, deg_untouched]
 constructor
 ·rintro ⟨f, f1, f2⟩
  refine ⟨?_, fun q => q f f1 f2⟩
  have := hL _ (edL_mem (hB f f1)); rcases f2 with rfl | rfl <;> omega
 ·rintro ⟨_, q⟩
  exact Classical.byContradiction fun hx => q fun f hf ht => hx ⟨f, hf, ht⟩
theorem BlkA.own (h : BlkA L bs) (hL : ∀ p, p ∈ L → p.1 < n ∧ p.2 < n) {B : List Nat} (hB : B ∈ bs) : ownB L B = (B.length : Int) + ncls n (Conn (ptE L B)) - n ∧ ncls n (Conn (ptE L B)) + (toN L B).length = n + 1 := by
 have hc := conn_roots (L := L) (n := n) (l := B) (h.ne B hB) (fun f x hf hx => by have := hL _ (edL_mem (h.lt hB hf)); rcases hx with rfl | rfl <;> omega) fun x y hx hy => h.conn hB hx hy
 rw [← toN_count hL fun e he => h.lt hB he] at hc
 unfold ownB
 exact ⟨by omega, hc⟩
theorem sel_in {l : List Nat} (hL : ∀ p, p ∈ L → p.1 < n ∧ p.2 < n) (hl : ∀ f, f ∈ l → f < L.length) : InN n (ptE L l) := fun p hp => by
 obtain ⟨f, f1, rfl⟩ := ptE_mem.1 hp
 have := hL _ (edL_mem (hl f f1))
 simp only; omega
theorem BlkA.own_zero (h : BlkA L bs) (hL : ∀ p, p ∈ L → p.1 < n ∧ p.2 < n) {B : List Nat} (hB : B ∈ bs) : ownB L B = 0 ↔ isBr L B = true := by
 obtain ⟨h1, h2⟩ := h.own hL hB
 have hne := h.ne B hB
 have hnl := ncls_len (n := n) (ptE L B) (sel_in hL fun f hf => h.lt hB hf)
 rw [ptE_len] at hnl
 unfold isBr
 rw [Bool.and_eq_true, decide_eq_true_eq, decide_eq_true_eq]
 match B, hB, h1, hne, hnl with
 | [], _, _, hne, _ => exact absurd rfl hne
 | [e], hB, h1, _, _ =>
  have hel := h.lt hB (e := e) (by simp)
  have hab := hL _ (edL_mem hel)
  rw [h1, ptE_one]
  show _ ↔ [e].length = 1 ∧ (edL L e).1 ≠ (edL L e).2
  by_cases hl : (edL L e).1 = (edL L e).2
  ·have q : ncls n (Conn ([] ++ [(((edL L e).1 : Int), ((edL L e).2 : Int))])) = _ := ncls_snoc_in (by rw [hl]; exact .refl)
   rw [List.nil_append, conn_nil_ncls] at q
   rw [q]
   constructor
   ·intro q; simp at q
   ·rintro ⟨_, q⟩; exact absurd hl q
  ·have q : ncls n (Conn ([] ++ [(((edL L e).1 : Int), ((edL L e).2 : Int))])) + 1 = _ := ncls_snoc_new hab.1 hab.2 (M := []) (fun q => hl (conn_none.1 q))
   rw [List.nil_append, conn_nil_ncls] at q
   constructor
   ·intro _; exact ⟨rfl, hl⟩
   ·intro _; rw [List.length_singleton]; omega
 | e :: f :: r, hB, h1, _, hnl =>
  have hef : e ≠ f := by
   obtain ⟨i, hi⟩ := List.mem_iff_getElem?.1 hB
   have := List.nodup_cons.1 ((List.pairwise_flatten.1 h.nd).1 _ hB)
   intro q; exact this.1 (by rw [q]; simp)
  obtain ⟨C, c1, c2, c3⟩ : ∃ C, Circ L C ∧ C e = true ∧ C f = true := by
   rcases (h.cls _ hB e (by simp) f).1 (by simp) with q | q
   ·exact absurd q hef
   ·exact q
  have := circ_acyc c1 (e :: f :: r) fun g hg => (h.cls _ hB e (by simp) g).2 (.inr ⟨C, c1, c2, hg⟩)
  rw [hnl.2] at this
  constructor
  ·intro q; omega
  ·rintro ⟨q, _⟩; simp at q
def genB (L : List (Nat × Nat)) (bs : List (List Nat)) : Int := bs.foldl (fun s B => s + ownB L B) 0
theorem genB_snoc (L : List (Nat × Nat)) (bs : List (List Nat)) (B : List Nat) : genB L (bs ++ [B]) = genB L bs + ownB L B := by simp [genB]
theorem BlkA.sum (h : BlkA L bs) (hL : ∀ p, p ∈ L → p.1 < n ∧ p.2 < n) : ∀ k, k ≤ bs.length → genB L (bs.take k) = ((bs.take k).flatten.length : Int) + ncls n (Conn (ptE L (bs.take k).flatten)) - n := by
 intro k
 induction k with
 | zero =>
  intro _
  show (0 : Int) = _
  rw [List.take_zero, List.flatten_nil, show ptE L [] = [] from rfl, conn_nil_ncls]; simp
 | succ k ih =>
  intro hk
  have hlt : k < bs.length := by omega
  have ih := ih (by omega)
  have hm := List.getElem_mem hlt
  rw [List.take_succ_eq_append_getElem hlt, genB_snoc, ih, (h.own hL hm).1, List.flatten_append, List.flatten_cons, List.flatten_nil, List.append_nil, List.length_append]
  have hsub : ((bs.take k).flatten ++ bs[k]).Sublist bs.flatten := by
   have e : (bs.take k).flatten ++ bs[k] = (bs.take (k + 1)).flatten := by rw [List.take_succ_eq_append_getElem hlt, List.flatten_append, List.flatten_cons, List.flatten_nil, List.append_nil]
   rw [e]; exact take_flatten_sub _ _
  have hnd := h.nd.sublist hsub
  have := rank_add (n := n) (l1 := (bs.take k).flatten) hL bs[k] hnd (fun f hf => (h.mem f).1 (hsub.subset hf)) fun C c1 c2 x y hx hy hx2 hy1 => by
   have := (h.cls _ hm x hx2 y).2 (.inr ⟨C, c1, hx, hy⟩)
   exact (List.nodup_append.1 hnd).2.2 y hy1 y this rfl
  omega
theorem BlkA.genus (h : BlkA L bs) (hL : ∀ p, p ∈ L → p.1 < n ∧ p.2 < n) : genB L bs = (L.length : Int) + ncls n (Conn (LI L)) - n ∧ bs.flatten.length = L.length := by
 have h1 := h.sum hL bs.length (Nat.le_refl _)
 have hp : bs.flatten.Perm (List.range L.length) := (List.perm_ext_iff_of_nodup h.nd List.nodup_range).2 fun e => by rw [h.mem, List.mem_range]
 have hl : bs.flatten.length = L.length := by rw [hp.length_eq, List.length_range]
 rw [List.take_length, hl] at h1
 refine ⟨?_, hl⟩
 rw [h1, ncls_congr (S := Conn (LI L)) fun x y _ _ => ?_]
 refine ⟨conn_le fun p hp => ?_, conn_le fun p hp => ?_⟩
 ·obtain ⟨f, f1, rfl⟩ := ptE_mem.1 hp
  exact List.mem_map.2 ⟨_, edL_mem ((h.mem f).1 f1), rfl⟩
 ·obtain ⟨q, hq, rfl⟩ := List.mem_map.1 hp
  obtain ⟨f, hf, rfl⟩ := List.getElem_of_mem hq
  refine ptE_mem.2 ⟨f, (h.mem f).2 hf, ?_⟩
  unfold edL; rw [List.getD_eq_getElem?_getD, List.getElem?_eq_getElem hf]; rfl
end
theorem mT_val (l : List Nat) (x : Nat) : mVal (mT l) (.int (x : Int)) (.c (.bool false)) = .c (.bool (decide (x ∈ l))) := by
 unfold mVal
 cases h : mIdx (mT l) (.int (x : Int)) with
 | none =>
  have hn : x ∉ l := fun hx => by
   unfold mIdx at h
   rw [List.findIdx?_eq_none_iff] at h
   have := h (.int (x : Int), .c (.bool true)) (List.mem_map.2 ⟨x, hx, rfl⟩)
   simp at this
  rw [decide_eq_false hn]; rfl
 | some i =>
  obtain ⟨v, hv⟩ := mIdx_some h
  obtain ⟨y, hy, e⟩ := mT_get hv
  have ey : x = y := by injection e with e1 _; injection e1 with e1; omega
  subst ey
  rw [decide_eq_true (List.mem_of_getElem? hy)]
  show (((mT l)[i]?).map (·.2)).getD _ = _
  rw [mT_at hy]; rfl
theorem Divides_law (g : G) : ACall Try.prog 6 [tG g] (tbool true) := by
 have hR := cright_ok g
 have hA := cawake_ok
 by_cases hr : (smallB g 6 9 && decide (checkG g = 0)) = true
 case neg =>
  rw [Bool.not_eq_true] at hr
  rw [hr] at hR
  obtain ⟨n, es⟩ := g
  refine ACall.of_body Try.func6 rfl (by kernel_rfl) ?_
  simp only [entry, Try.ntmps6, tG]
  refine zU ?_
  refine zR trivial (zc hR (zc hA trivial)) trivial ?_
  simp [Rets, aret, Blk.cells, ty, Try.results6, ares, toT1, toT, borrow, borrow0, capCell, toTree0, tbool]
 rw [hr] at hR
 rw [Bool.and_eq_true, decide_eq_true_eq] at hr
 obtain ⟨hf, hc⟩ := hr
 have hfw := few_of hf
 have hes := hfw.es
 have h12 := (checkG_zero.1 hc).1
 have hsz := hfw.sz hc
 have hng := ng_of hc hes
 have hLl : (nL (endsL g.es)).length = (endsL g.es).length := nL_len _
 have hE := refEnds_ok g hes hc
 have hBk := Blocks_ok g hes
 have hB := Bridges_ok g hes
 have hGe := GenusR_ok g g.n.toNat hc (by omega) (by omega)
 rw [parts_ncls hc (show g.n = (g.n.toNat : Nat) by omega), hng.ends] at hGe
 rw [hng.ends] at hE
 generalize nL (endsL g.es) = L at *
 have hbA := blkA_of (L := L) (n := g.n.toNat) hng.h12 hng.lt
 have hown := fun B hB => hbA.own_zero hng.lt (B := B) hB
 have hsum := hbA.sum hng.lt
 obtain ⟨hgen, hflat⟩ := hbA.genus hng.lt
 have hbm := fun B hB => blocksB_mem hng.h12 hng.lt (B := B) hB
 have hbl := allB_len hng.h12 hng.lt
 have hbrl : (brI L (blocksB L g.n.toNat)).length = (blocksB L g.n.toNat).countP (isBr L) := by
  unfold brI; rw [List.length_map, List.countP_eq_length_filter]
 have hbrm : ∀ B, B ∈ blocksB L g.n.toNat → isBr L B = true → B.getD 0 0 ∈ brI L (blocksB L g.n.toNat) := fun B hB hb => by
  unfold brI; exact List.mem_map.2 ⟨B, List.mem_filter.2 ⟨hB, hb⟩, rfl⟩
 have hcp : ∀ k, ((blocksB L g.n.toNat).take k).countP (isBr L) ≤ 4000 := fun k => by
  have h1 := List.countP_le_length (p := isBr L) (l := (blocksB L g.n.toNat).take k)
  have h2 := hng.len
  rw [List.length_take] at h1; omega
 have hncl : ∀ (R : Nat → Nat → Prop), ncls g.n.toNat R ≤ g.n.toNat := fun R => by
  classical
  unfold ncls; exact Nat.le_trans (List.length_filter_le _ _) (by simp)
 have hLL : (LI L).length = L.length := by simp [LI]
 rw [hLL] at hGe
 have hgen2 : (L.length : Int) - (g.n.toNat : Nat) + (ncls g.n.toNat (Conn (LI L)) : Nat) = genB L (blocksB L g.n.toNat) := by rw [hgen]; omega
 rw [hgen2] at hGe
 have hm9 : L.length ≤ 9 := by omega
 have hfl : ∀ k, ((blocksB L g.n.toNat).take k).flatten.length ≤ 9 := fun k => by
  have := (take_flatten_sub (blocksB L g.n.toNat) k).length_le
  omega
 have hgb : ∀ k, k ≤ (blocksB L g.n.toNat).length → -100 ≤ genB L ((blocksB L g.n.toNat).take k) ∧ genB L ((blocksB L g.n.toNat).take k) ≤ 100 := fun k hk => by
  have h1 := hsum k hk
  have h2 := hncl (Conn (ptE L ((blocksB L g.n.toNat).take k).flatten))
  have h3 := hfl k
  omega
 have hcb : ∀ k, (((blocksB L g.n.toNat).take k).countP (isBr L) : Int) ≤ 4000 := fun k => by have := hcp k; omega
 rw [if_neg (by omega), hc] at hB hBk
 have hCt := fun e => Contains_ok (zI (brI L (blocksB L g.n.toNat))) e (by rw [zI_len]; have := hcp (blocksB L g.n.toNat).length; rw [List.take_length] at this; omega)
 have hnd := hbA.nd
 generalize hbr : brI L (blocksB L g.n.toNat) = br at *
 generalize blocksB L g.n.toNat = bs at *
 clear hsum hgen hgen2 hbA hncl hng hc hf hfw hLl hbr
 have hbs18 : bs.length ≤ 18 := by omega
 obtain ⟨nI, es⟩ := g
 simp only at *
 have hz0 : mT ([] : List Nat) = [] := rfl
 refine ACall.of_body Try.func6 rfl (by kernel_rfl) ?_
 simp only [entry, Try.ntmps6, tG]
 refine zU ?_
 refine zR (zc @llRows_len (zc @oI_len trivial)) (zc hR (zc hA (zc hBk (zc hB (zc hE trivial))))) trivial ?_
 refine AWp.loopS (α:=Nat) 128 (fun i=>[(1,.c (.ptr 0 0)),(3,.c (.slice (llRows (oI bs)) .none)),(5,.c (.slice (iRows (zI br)) .none)),(7,.c (.slice (pRows (LI L)) .none)),(8,.c (.map 1)),(9,.c (.int .i64 (genB L (bs.take i)))),(10,.c (.int .i64 ((bs.take i).countP (isBr L) : Int))),(38,.c (.slice (llRows (oI bs)) .none)),(39,.c (.int .i64 (bs.length : Int))),(40,.c (.int .i64 (i : Int)))]) (fun i=>[.box [.int .i64 nI, .slice (eRows es) .none], .map (mT (bs.take i).flatten)]) (fun i=>i ≤ bs.length) (fun i=>bs.length - i) (0) (hk:=Weak.headL 2 128 [1, 3, 5, 7, 8, 9, 10, 38, 39, 40] zW) (h0:=?_) (round:=fun i hI=>?_)
 ·exact Nat.zero_le _
 ·have hi : i ≤ bs.length := hI
  clear hI
  by_cases hlt : i < bs.length
  ·have hltI : (i : Int) < (bs.length : Int) := by omega
   have e0 := List.getElem?_eq_getElem hlt
   have e1 := llRows_get (oI_get e0)
   have hBm := List.getElem_mem hlt
   obtain ⟨m1, m2, m3⟩ := hbm _ hBm
   have hBl := sorted_len m3 m2
   have hsn : bs.take (i + 1) = bs.take i ++ [bs[i]] := List.take_succ_eq_append_getElem hlt
   have hgs := genB_snoc L (bs.take i) bs[i]
   rw [← hsn] at hgs
   have hcs : (bs.take (i + 1)).countP (isBr L) = (bs.take i).countP (isBr L) + if isBr L bs[i] = true then 1 else 0 := by
    rw [hsn, List.countP_append, List.countP_cons, List.countP_nil, Nat.zero_add]
   have hfs : (bs.take (i + 1)).flatten = (bs.take i).flatten ++ bs[i] := by rw [hsn, List.flatten_append, List.flatten_cons, List.flatten_nil, List.append_nil]
   have hnd2 : ((bs.take i).flatten ++ bs[i]).Nodup := by
    rw [← hfs]; exact hnd.sublist (take_flatten_sub _ _)
   have how := hown _ hBm
   have hb0 := hbrm _ hBm
   have hg1 := hgb i hi
   have hg2 := hgb (i + 1) hlt
   have hc1 := hcb i
   have hf1 := hfl i
   generalize bs[i] = B at *
   generalize hgi : genB L (bs.take i) = gi at *
   generalize hgi2 : genB L (bs.take (i + 1)) = gi2 at *
   generalize hci : (bs.take i).countP (isBr L) = ci at *
   generalize hci2 : (bs.take (i + 1)).countP (isBr L) = ci2 at *
   generalize hfi : (bs.take i).flatten = fi at *
   clear hgb hcb hfl hown hbrm hbm hcp
   repeat' ((fail_if_success (with_reducible refine AWp.atSeq 15 ?_));(fail_if_success (with_reducible refine AWp.atLast 15 ?_));first|((first|(refine zT ?_;intro K' hK')|(refine zG ?_ ?_<;>(try refine zH ?_)<;>intro hguard<;>(try exact zX)<;>try intro K' hK'))<;>((try simp +contextual only [go_sem, hltI, e1, iRows_len, zI_len, Int.toNat_natCast, Nat.mul_one]);(repeat' first|(with_reducible refine hK' _ _ ?_;clear hK' K')|exact zY|with_reducible refine And.intro ?_ ?_|(with_reducible intro hpath;try exact zP)|(refine hK' _ _ ?_;clear hK' K')|fail);try refine zS ?_))|(refine zE ?_;refine hK _ _ ?_;clear hK K)|(refine zN ?_;try refine zS ?_)|refine zA ?_|(refine zB ?_;intro K hK)|(refine zC ?_ ?_<;>(try refine zH ?_)<;>intro hcond<;>try exact zX)|fail)
   rw [show mT fi = mT (fi ++ B.take 0) by rw [List.take_zero, List.append_nil]]
   refine AWp.loopS (α:=Nat) 128 (fun k=>[(1,.c (.ptr 0 0)),(3,.c (.slice (llRows (oI bs)) .none)),(5,.c (.slice (iRows (zI br)) .none)),(7,.c (.slice (pRows (LI L)) .none)),(8,.c (.map 1)),(9,.c (.int .i64 gi)),(10,.c (.int .i64 (ci : Int))),(12,.c (.slice (iRows (zI B)) .none)),(13,.c (.map 2)),(38,.c (.slice (llRows (oI bs)) .none)),(39,.c (.int .i64 (bs.length : Int))),(40,.c (.int .i64 (i : Int))),(45,.c (.slice (iRows (zI B)) .none)),(46,.c (.int .i64 (B.length : Int))),(47,.c (.int .i64 (k : Int)))]) (fun k=>[.box [.int .i64 nI, .slice (eRows es) .none], .map (mT (fi ++ B.take k)), .map (mT (toN L (B.take k)))]) (fun k=>k ≤ B.length) (fun k=>B.length - k) (0) (hk:=Weak.headL 3 128 [1, 3, 5, 7, 8, 9, 10, 12, 13, 38, 39, 40, 45, 46, 47] zW) (h0:=?_) (round:=fun k hI=>?_)
   ·exact Nat.zero_le _
   ·have hk : k ≤ B.length := hI
    clear hI
    by_cases hkl : k < B.length
    ·have hklI : (k : Int) < (B.length : Int) := by omega
     have b0 := List.getElem?_eq_getElem hkl
     have b1 := zI_get b0
     have hx := m2 _ (List.getElem_mem hkl)
     have hBs : B.take (k + 1) = B.take k ++ [B[k]] := List.take_succ_eq_append_getElem hkl
     have hto := toN_snoc L (B.take k) B[k]
     rw [← hBs] at hto
     have hxn : B[k] ∉ fi ++ B.take k := fun q => by
      have hsub : ((fi ++ B.take k) ++ [B[k]]).Sublist (fi ++ B) := by
       rw [List.append_assoc, ← hBs]; exact List.Sublist.append_left (List.take_sublist _ _) _
      exact (List.nodup_append.1 (hnd2.sublist hsub)).2.2 _ q _ (by simp) rfl
     have hins : insT (fi ++ B.take k) B[k] = fi ++ B.take (k + 1) := by
      unfold insT; rw [if_neg hxn, hBs, List.append_assoc]
     have hval := mT_val (fi ++ B.take k) B[k]
     rw [decide_eq_false hxn] at hval
     have hln : (mT (fi ++ B.take k)).length ≤ 100 := by rw [mT_len, List.length_append, List.length_take]; omega
     have hln2 : (mT (toN L (B.take k))).length ≤ 100 := by
      have := (toN_ok L (B.take k)).2.1
      rw [List.length_take] at this; rw [mT_len]; omega
     generalize B[k] = x at *
     have e3 := LI_get (List.getElem?_eq_getElem hx)
     have hxI : (x : Int) < (L.length : Int) := by omega
     have hx0 : ¬ (x : Int) < 0 := by omega
     have hxg : ¬ (L.length : Int) ≤ (x : Int) := by omega
     have hed : edL L x = L[x] := by unfold edL; rw [List.getD_eq_getElem?_getD, List.getElem?_eq_getElem hx]; rfl
     unfold toStep at hto
     rw [hed] at hto
     generalize L[x] = p at *
     generalize hl1 : fi ++ B.take k = l1 at *
     generalize hl2 : fi ++ B.take (k + 1) = l2 at *
     generalize ht1 : toN L (B.take k) = t1 at *
     generalize ht2 : toN L (B.take (k + 1)) = t2 at *
     repeat' (first|(with_reducible refine AWp.seq_drawM mapIB klInt zeroB (by with_unfolding_all rfl) (by with_unfolding_all kernel_rfl) (fun K hK=>?_))|(with_reducible refine AWp.last_drawM mapIB klInt zeroB (by with_unfolding_all rfl) (by with_unfolding_all kernel_rfl) (fun K hK=>?_))|((first|(refine zT ?_;intro K' hK')|(refine zG ?_ ?_<;>(try refine zH ?_)<;>intro hguard<;>(try exact zX)<;>try intro K' hK'))<;>((try simp +contextual only [go_sem, hklI, b1, e3, hxI, hx0, hxg, hval, iRows_len, zI_len, pRows_len, LI_len, Int.toNat_natCast, Nat.mul_one, toKey, mapIB, zeroB, mSet_mAdd, mPut_mT, hins]);(repeat' first|(with_reducible refine hK' _ _ ?_;clear hK' K')|(refine ⟨_, klInt, rfl, mT_ok _, ?_⟩ ; try simp +contextual only [go_sem, hklI, b1, e3, hxI, hx0, hxg, hval, iRows_len, zI_len, pRows_len, LI_len, Int.toNat_natCast, Nat.mul_one, toKey, mapIB, zeroB, mSet_mAdd, mPut_mT, hins])|(exact rfl)|(exact mT_ok _)|(with_reducible refine ⟨_,rfl,?_⟩;try simp +contextual only [go_sem, hklI, b1, e3, hxI, hx0, hxg, hval, iRows_len, zI_len, pRows_len, LI_len, Int.toNat_natCast, Nat.mul_one, toKey, mapIB, zeroB, mSet_mAdd, mPut_mT, hins])|(exact mStamp_lt _ _ _)|(decide)|exact zY|with_reducible refine And.intro ?_ ?_|(with_reducible intro hpath;try exact zP)|(refine hK' _ _ ?_;clear hK' K')|fail);try refine zS ?_))|(refine zE ?_;refine hK _ _ ?_;clear hK K)|(refine zN ?_;try refine zS ?_)|refine zA ?_|(refine zB ?_;intro K hK)|(refine zC ?_ ?_<;>(try refine zH ?_)<;>intro hcond<;>try exact zX)|fail)
     rw [← hto]
     refine ⟨k + 1,Weak.headF 3 128 [1, 3, 5, 7, 8, 9, 10, 12, 13, 38, 39, 40, 45, 46, 47] (zc @hl2 (zc @ht2 trivial)) zW,?_,?_⟩
     ·exact hkl
     ·omega
    ·have hnl : ¬ (k : Int) < (B.length : Int) := by omega
     have ek : k = B.length := by omega
     subst ek
     rw [List.take_length]
     have htl := (toN_ok L B).2.1
     have hob : ownB L B = (B.length : Int) - ((toN L B).length : Int) + 1 := rfl
     have hml := mT_len (toN L B)
     obtain ⟨x0, hx0⟩ : ∃ x, B[0]? = some x := ⟨_, List.getElem?_eq_getElem (List.length_pos_iff.2 m1)⟩
     have hgd : B.getD 0 0 = x0 := by rw [List.getD_eq_getElem?_getD, hx0]; rfl
     have hpos : (0 : Int) < (B.length : Int) := by have := (List.getElem?_eq_some_iff.1 hx0).1; omega
     have b0 := zI_get hx0
     have hCi := hCt (x0 : Int)
     rw [hgd] at hb0
     by_cases hbr : isBr L B = true
     ·have ho0 := how.2 hbr
      rw [if_pos hbr] at hcs
      have hB1 : (B.length : Int) = 1 := by
       unfold isBr at hbr; rw [Bool.and_eq_true, decide_eq_true_eq] at hbr; omega
      have hmb : (x0 : Int) ∈ zI br := List.mem_map.2 ⟨x0, hb0 hbr, rfl⟩
      rw [decide_eq_true hmb] at hCi
      have ho1 : (B.length : Int) - ((toN L B).length : Int) + 1 = 0 := by omega
      have hgg : gi2 = gi := by omega
      have hc2 : (ci : Int) + 1 = (ci2 : Int) := by omega
      repeat' (first|((with_reducible refine AWp.seq (AWp.of_reg (id:=22) (AReg.pre 3 (fun K hK=>?_))));simp only [List.take_succ_cons,List.take_zero])|((with_reducible refine AWp.of_reg (id:=22) (AReg.pre 3 (fun K hK=>?_)));simp only [List.take_succ_cons,List.take_zero])|((first|(refine zT ?_;intro K' hK')|(refine zG ?_ ?_<;>(try refine zH ?_)<;>intro hguard<;>(try exact zX)<;>try intro K' hK'))<;>((try simp +contextual only [go_sem, hnl, iRows_len, zI_len]);(repeat' first|(with_reducible refine hK' _ _ ?_;clear hK' K')|exact zY|with_reducible refine And.intro ?_ ?_|(with_reducible intro hpath;try exact zP)|(refine hK' _ _ ?_;clear hK' K')|fail);try refine zS ?_))|(refine zE ?_;refine hK _ _ ?_;clear hK K)|(refine zN ?_;try refine zS ?_)|refine zA ?_|(refine zB ?_;intro K hK)|(refine zC ?_ ?_<;>(try refine zH ?_)<;>intro hcond<;>try exact zX)|fail)
      simp only [List.drop_succ_cons, List.drop_zero]
      refine AReg.step rfl rfl (step_len_map _ 49 _ rfl rfl 3 4 mapIB 2 rfl (mT (toN L B)) rfl) ?_
      simp only [aput, List.set_cons_succ, List.set_cons_zero, mT_len]
      refine AReg.rest (fun K hK => ?_)
      repeat' (first|((first|(refine zT ?_;intro K' hK')|(refine zG ?_ ?_<;>(try refine zH ?_)<;>intro hguard<;>(try exact zX)<;>try intro K' hK'))<;>((try simp +contextual only [go_sem, ho1, hB1, b0, hpos, hc2, iRows_len, zI_len, Int.toNat_natCast]);(repeat' first|(with_reducible refine hK' _ _ ?_;clear hK' K')|(with_reducible refine zK hCi ?_;try simp +contextual only [go_sem, ho1, hB1, b0, hpos, hc2, iRows_len, zI_len, Int.toNat_natCast])|exact zY|with_reducible refine And.intro ?_ ?_|(with_reducible intro hpath;try exact zP)|(refine hK' _ _ ?_;clear hK' K')|fail);try refine zS ?_))|(refine zE ?_;refine hK _ _ ?_;clear hK K)|(refine zN ?_;try refine zS ?_)|refine zA ?_|(refine zB ?_;intro K hK)|(refine zC ?_ ?_<;>(try refine zH ?_)<;>intro hcond<;>try exact zX)|fail)
      have hg5 : gi + (1 - ((toN L B).length : Int) + 1) = gi2 := by omega
      rw [← hfs, hg5]
      refine ⟨i + 1,Weak.headF 2 128 [1, 3, 5, 7, 8, 9, 10, 38, 39, 40] (zc @hgi2 (zc @hci2 trivial)) zW,?_,?_⟩
      ·exact hlt
      ·omega
     ·rw [if_neg hbr] at hcs
      have ho0 : ¬ (B.length : Int) - ((toN L B).length : Int) + 1 = 0 := fun q => hbr (how.1 q)
      have hg3 : gi + ((B.length : Int) - ((toN L B).length : Int) + 1) = gi2 := by omega
      have hc2 : ci2 = ci := by omega
      repeat' (first|((with_reducible refine AWp.seq (AWp.of_reg (id:=22) (AReg.pre 3 (fun K hK=>?_))));simp only [List.take_succ_cons,List.take_zero])|((with_reducible refine AWp.of_reg (id:=22) (AReg.pre 3 (fun K hK=>?_)));simp only [List.take_succ_cons,List.take_zero])|((first|(refine zT ?_;intro K' hK')|(refine zG ?_ ?_<;>(try refine zH ?_)<;>intro hguard<;>(try exact zX)<;>try intro K' hK'))<;>((try simp +contextual only [go_sem, hnl, iRows_len, zI_len]);(repeat' first|(with_reducible refine hK' _ _ ?_;clear hK' K')|exact zY|with_reducible refine And.intro ?_ ?_|(with_reducible intro hpath;try exact zP)|(refine hK' _ _ ?_;clear hK' K')|fail);try refine zS ?_))|(refine zE ?_;refine hK _ _ ?_;clear hK K)|(refine zN ?_;try refine zS ?_)|refine zA ?_|(refine zB ?_;intro K hK)|(refine zC ?_ ?_<;>(try refine zH ?_)<;>intro hcond<;>try exact zX)|fail)
      simp only [List.drop_succ_cons, List.drop_zero]
      refine AReg.step rfl rfl (step_len_map _ 49 _ rfl rfl 3 4 mapIB 2 rfl (mT (toN L B)) rfl) ?_
      simp only [aput, List.set_cons_succ, List.set_cons_zero, mT_len]
      refine AReg.rest (fun K hK => ?_)
      repeat' (first|((first|(refine zT ?_;intro K' hK')|(refine zG ?_ ?_<;>(try refine zH ?_)<;>intro hguard<;>(try exact zX)<;>try intro K' hK'))<;>((try simp +contextual only [go_sem, ho0, hg3, iRows_len, zI_len, Int.toNat_natCast]);(repeat' first|(with_reducible refine hK' _ _ ?_;clear hK' K')|exact zY|with_reducible refine And.intro ?_ ?_|(with_reducible intro hpath;try exact zP)|(refine hK' _ _ ?_;clear hK' K')|fail);try refine zS ?_))|(refine zE ?_;refine hK _ _ ?_;clear hK K)|(refine zN ?_;try refine zS ?_)|refine zA ?_|(refine zB ?_;intro K hK)|(refine zC ?_ ?_<;>(try refine zH ?_)<;>intro hcond<;>try exact zX)|fail)
      rw [← hfs, ← hc2]
      refine ⟨i + 1,Weak.headF 2 128 [1, 3, 5, 7, 8, 9, 10, 38, 39, 40] (zc @hgi2 (zc @hci2 trivial)) zW,?_,?_⟩
      ·exact hlt
      ·omega
  ·have hnl : ¬ (i : Int) < (bs.length : Int) := by omega
   have ei : i = bs.length := by omega
   subst ei
   rw [List.take_length] at *
   have x1 : (bs.flatten.length : Int) = (L.length : Int) := by omega
   have x2 : (bs.countP (isBr L) : Int) = (br.length : Int) := by omega
   repeat' (first|((with_reducible refine AWp.seq (AWp.of_reg (id:=29) (AReg.pre 1 (fun K hK=>?_))));simp only [List.take_succ_cons,List.take_zero])|((with_reducible refine AWp.of_reg (id:=29) (AReg.pre 1 (fun K hK=>?_)));simp only [List.take_succ_cons,List.take_zero])|((first|(refine zT ?_;intro K' hK')|(refine zG ?_ ?_<;>(try refine zH ?_)<;>intro hguard<;>(try exact zX)<;>try intro K' hK'))<;>((try simp +contextual only [go_sem, hnl]);(repeat' first|(with_reducible refine hK' _ _ ?_;clear hK' K')|exact zY|with_reducible refine And.intro ?_ ?_|(with_reducible intro hpath;try exact zP)|(refine hK' _ _ ?_;clear hK' K')|fail);try refine zS ?_))|(refine zE ?_;refine hK _ _ ?_;clear hK K)|(refine zN ?_;try refine zS ?_)|refine zA ?_|(refine zB ?_;intro K hK)|(refine zC ?_ ?_<;>(try refine zH ?_)<;>intro hcond<;>try exact zX)|fail)
   simp only [List.drop_succ_cons, List.drop_zero]
   refine AReg.step rfl rfl (step_len_map _ 49 _ rfl rfl 3 4 mapIB 1 rfl (mT bs.flatten) rfl) ?_
   simp only [aput, List.set_cons_succ, List.set_cons_zero, mT_len]
   refine AReg.rest (fun K hK => ?_)
   repeat' (first|((first|(refine zT ?_;intro K' hK')|(refine zG ?_ ?_<;>(try refine zH ?_)<;>intro hguard<;>(try exact zX)<;>try intro K' hK'))<;>((try simp +contextual only [go_sem, x1, x2, pRows_len, LI_len, iRows_len, zI_len]);(repeat' first|(with_reducible refine hK' _ _ ?_;clear hK' K')|((with_reducible first|refine zK hGe ?_|refine zK hA ?_);try simp +contextual only [go_sem, x1, x2, pRows_len, LI_len, iRows_len, zI_len])|exact zY|with_reducible refine And.intro ?_ ?_|(with_reducible intro hpath;try exact zP)|(refine hK' _ _ ?_;clear hK' K')|fail);try refine zS ?_))|(refine zE ?_;refine hK _ _ ?_;clear hK K)|(refine zN ?_;try refine zS ?_)|refine zA ?_|(refine zB ?_;intro K hK)|(refine zC ?_ ?_<;>(try refine zH ?_)<;>intro hcond<;>try exact zX)|fail)
   simp [Rets, aret, Blk.cells, ty, Try.results6, ares, toT1, toT, borrow, borrow0, capCell, toTree0, tbool]
end Go.Proofs.Ytgklecfiflhjmaa
