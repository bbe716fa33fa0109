/- A part of the proof. -/
import Derived.Test.YtgklecfiflhjmaaPart18
import Derived.Test.YtgklecfiflhjmaaLayerC
import Derived.Test.YtgklecfiflhjmaaPart06
import Derived.Test.YtgklecfiflhjmaaPart04
import Derived.Test.YtgklecfiflhjmaaPart08
import Derived.Test.YtgklecfiflhjmaaPart02
import Derived.Test.YtgklecfiflhjmaaPart07
set_option linter.all false
set_option maxHeartbeats 4000000
set_option maxRecDepth 100000
namespace Go.Proofs.Ytgklecfiflhjmaa
open Go.Sp
theorem conn_nil_ncls (n : Nat) : ncls n (Conn []) = n := by
 have := ncls_onto (N := n) (n := n) (fun x => x) (fun x hx => hx) (fun v hv => ⟨v, hv, rfl⟩)
 rw [← ncls_congr (R := Conn []) (S := fun x y => x = y) fun x y _ _ => ?_] at this
 ·exact this
 ·constructor
  ·intro hc
   cases hc with
   | refl => rfl
   | step _ hs => simp at hs
  ·rintro rfl; exact .refl
theorem refEnds_ok (g : G) (hl : g.es.length ≤ 40) (hc : checkG g = 0) : ACall Try.prog 27 [tG g] (tpairs (endsL g.es)) := by
 have hs := sm_of (g := g) (by omega) hc
 exact EndsR_ok g hs.s hs.es hs.m
def insT (l : List Nat) (x : Nat) : List Nat := if x ∈ l then l else l ++ [x]
def mT (l : List Nat) : List (MKey × MV) := l.map fun x : Nat => (.int (x : Int), .c (.bool true))
theorem mT_len (l : List Nat) : (mT l).length = l.length := by simp [mT]
theorem mT_get {l : List Nat} {j : Nat} {e : MKey × MV} (h : (mT l)[j]? = some e) : ∃ x : Nat, l[j]? = some x ∧ e = (.int (x : Int), .c (.bool true)) := by
 simp only [mT, List.getElem?_map] at h
 cases hx : l[j]? with
 | none => simp [hx] at h
 | some x => simp [hx] at h; exact ⟨x, rfl, h.symm⟩
theorem mT_at {l : List Nat} {j x : Nat} (h : l[j]? = some x) : (mT l)[j]? = some (.int (x : Int), .c (.bool true)) := by simp [mT, h]
theorem mT_ok (l : List Nat) : ∀ e, e ∈ mT l → KShape.ok .int e.1 = true := fun e he => by
 obtain ⟨x, _, rfl⟩ := List.mem_map.1 he; rfl
theorem mPut_mT (l : List Nat) (x : Nat) : mPut (mT l) (.int (x : Int)) (.c (.bool true)) = mT (insT l x) := by
 unfold mPut insT
 cases h : mIdx (mT l) (.int (x : Int)) with
 | none =>
  have hn : x ∉ l := fun hx => by
   unfold mIdx at h
   rw [List.findIdx?_eq_none_iff] at h
   have := h (.int (x : Int), .c (.bool true)) (List.mem_map.2 ⟨x, hx, rfl⟩)
   simp at this
  rw [if_neg hn]; simp [mT]
 | some i =>
  obtain ⟨v, hv⟩ := mIdx_some h
  obtain ⟨y, hy, e⟩ := mT_get hv
  have ey : x = y := by injection e with e1 _; injection e1 with e1; omega
  subst ey
  rw [if_pos (List.mem_of_getElem? hy)]
  simp only
  apply List.ext_getElem?
  intro k
  by_cases hk : i = k
  ·subst hk
   rw [List.getElem?_set_self (List.getElem?_eq_some_iff.1 hv).1, mT_at hy]
  ·rw [List.getElem?_set_ne hk]
theorem insT_mem {l : List Nat} {x y : Nat} : y ∈ insT l x ↔ y ∈ l ∨ y = x := by
 unfold insT; split
 ·rename_i h
  exact ⟨.inl, fun h' => h'.elim id (fun e => e ▸ h)⟩
 ·simp
theorem insT_nodup {l : List Nat} {x : Nat} (h : l.Nodup) : (insT l x).Nodup := by
 unfold insT; split
 ·exact h
 ·rename_i hx
  exact List.nodup_append.2 ⟨h, by simp, fun a ha b hb => by simp at hb; subst hb; rintro rfl; exact hx ha⟩
theorem insT_len (l : List Nat) (x : Nat) : (insT l x).length ≤ l.length + 1 := by
 unfold insT; split <;> simp
theorem mapIB : tMap Try.prog 49 = some (3, 4) := by simp only [ty]
theorem zeroB : tZero Try.prog 4 = some (.bool false) := by simp only [ty]
def tB (L : List (Nat × Nat)) (v : Nat) (B : List Nat) : Bool := B.any fun e => decide ((edL L e).1 ≠ (edL L e).2) && (decide ((edL L e).1 = v) || decide ((edL L e).2 = v))
def inStep (L : List (Nat × Nat)) (l : List Nat) (e : Nat) : List Nat := if (edL L e).1 = (edL L e).2 then l else insT (insT l (edL L e).1) (edL L e).2
def inN (L : List (Nat × Nat)) (B : List Nat) : List Nat := B.foldl (inStep L) []
theorem inN_snoc (L : List (Nat × Nat)) (B : List Nat) (e : Nat) : inN L (B ++ [e]) = inStep L (inN L B) e := by simp [inN]
theorem tB_snoc (L : List (Nat × Nat)) (v : Nat) (B : List Nat) (e : Nat) : tB L v (B ++ [e]) = (tB L v B || (decide ((edL L e).1 ≠ (edL L e).2) && (decide ((edL L e).1 = v) || decide ((edL L e).2 = v)))) := by
 unfold tB; rw [List.any_append, List.any_cons, List.any_nil, Bool.or_false]
theorem inN_ok (L : List (Nat × Nat)) (B : List Nat) : (inN L B).Nodup ∧ (inN L B).length ≤ 2 * B.length ∧ ∀ x, x ∈ inN L B ↔ tB L x B = true := by
 refine snoc_ind (P := fun B => (inN L B).Nodup ∧ (inN L B).length ≤ 2 * B.length ∧ ∀ x, x ∈ inN L B ↔ tB L x B = true) ?_ ?_ B
 ·exact ⟨List.nodup_nil, by simp [inN], fun x => by simp [inN, tB]⟩
 ·intro B e ⟨h1, h2, h3⟩
  rw [inN_snoc]
  have ht := fun x => tB_snoc L x B e
  unfold inStep
  generalize edL L e = p at *
  split
  ·rename_i he
   refine ⟨h1, by rw [List.length_append]; omega, fun x => ?_⟩
   rw [h3 x, ht x]; simp [he]
  ·rename_i he
   refine ⟨insT_nodup (insT_nodup h1), ?_, fun x => ?_⟩
   ·have a1 := insT_len (insT (inN L B) p.1) p.2
    have a2 := insT_len (inN L B) p.1
    rw [List.length_append, List.length_singleton]; omega
   ·rw [insT_mem, insT_mem, h3 x, ht x]
    have e1 : (x = p.1) ↔ (p.1 = x) := eq_comm
    have e2 : (x = p.2) ↔ (p.2 = x) := eq_comm
    simp only [Bool.or_eq_true, Bool.and_eq_true, decide_eq_true_eq, ne_eq, he, not_false_eq_true, true_and, e1, e2, or_assoc]
def tmF (L : List (Nat × Nat)) (bs : List (List Nat)) (s : List Nat) : List Nat := (List.range 12).map fun v => bs.countP (tB L v) + if v ∈ s then 1 else 0
theorem tmF_len (L : List (Nat × Nat)) (bs : List (List Nat)) (s : List Nat) : (tmF L bs s).length = 12 := by simp [tmF]
theorem tmF_get (L : List (Nat × Nat)) (bs : List (List Nat)) (s : List Nat) {v : Nat} (hv : v < 12) : (tmF L bs s).getD v 0 = bs.countP (tB L v) + if v ∈ s then 1 else 0 := by
 unfold tmF; rw [List.getD_eq_getElem?_getD, List.getElem?_map, List.getElem?_range hv]; rfl
theorem tmF_set (L : List (Nat × Nat)) (bs : List (List Nat)) (s : List Nat) {x : Nat} (hx : x < 12) (hs : x ∉ s) : (tmF L bs s).set x (bs.countP (tB L x) + 1) = tmF L bs (s ++ [x]) := by
 apply List.ext_getElem
 ·simp [tmF]
 ·intro i h1 h2
  rw [List.getElem_set]
  unfold tmF
  simp only [List.getElem_map, List.getElem_range]
  split
  ·rename_i e; subst e; simp
  ·rename_i e
   have e' : ¬ i = x := fun h => e h.symm
   simp [e']
theorem tmF_done (L : List (Nat × Nat)) (bs : List (List Nat)) (B : List Nat) {s : List Nat} (h : ∀ x, x ∈ s ↔ x ∈ inN L B) : tmF L bs s = tmF L (bs ++ [B]) [] := by
 unfold tmF
 refine List.map_congr_left fun v _ => ?_
 have h2 := (inN_ok L B).2.2 v
 rw [List.countP_append, List.countP_cons, List.countP_nil]
 by_cases hv : tB L v B = true
 ·rw [if_pos ((h v).2 (h2.2 hv)), if_pos hv]; simp
 ·rw [if_neg (fun q => hv (h2.1 ((h v).1 q))), if_neg hv]; simp
theorem tmF_zero (L : List (Nat × Nat)) : fC (tmF L [] []) = [.int .i64 0, .int .i64 0, .int .i64 0, .int .i64 0, .int .i64 0, .int .i64 0, .int .i64 0, .int .i64 0, .int .i64 0, .int .i64 0, .int .i64 0, .int .i64 0] := rfl
def artI (L : List (Nat × Nat)) (bs : List (List Nat)) (n : Nat) : List Nat := (List.range n).filter fun v => decide (1 < bs.countP (tB L v))
theorem artI_succ (L : List (Nat × Nat)) (bs : List (List Nat)) (n : Nat) : artI L bs (n + 1) = if 1 < bs.countP (tB L n) then artI L bs n ++ [n] else artI L bs n := by
 unfold artI
 rw [List.range_succ, List.filter_append]
 by_cases h : 1 < bs.countP (tB L n) <;> simp [h]
theorem artI_len (L : List (Nat × Nat)) (bs : List (List Nat)) (n : Nat) : (artI L bs n).length ≤ n := by
 unfold artI; exact Nat.le_trans (List.length_filter_le _ _) (by simp)
theorem pickL_mem {l : List Nat} {seen : List Nat} {x : Nat} : x ∈ pickL l seen ↔ ∃ j, j ∈ seen ∧ l[j]? = some x := by
 unfold pickL; rw [List.mem_filterMap]
theorem Articulations_ok (g : G) (hl : g.es.length ≤ 40) : ACall Try.prog 13 [tG g] (.tup [tints (if checkG g ≠ 0 then [] else zI (artI (nL (endsL g.es)) (blocksB (nL (endsL g.es)) g.n.toNat) g.n.toNat)), tint (checkG g)]) := by
 have hC := Check_ok g (by omega)
 by_cases hc : checkG g = 0
 ·have hN := ng_of hc hl
  have hB := cblocks_ok hl hc hN
  have hE := cends_ok g (by omega) hc
  have hbl := allB_len hN.h12 hN.lt
  have hbm := fun B hB => blocksB_mem hN.h12 hN.lt (B := B) hB
  have hLl := hN.len
  have hLn := hN.lt
  have hn12 := hN.h12
  have hnn := hN.hn
  rw [hN.ends] at hE
  rw [if_neg (by omega), hc]
  rw [hc] at hC
  generalize nL (endsL g.es) = L at *
  generalize blocksB L g.n.toNat = bs at *
  generalize g.n.toNat = n at *
  clear hN
  obtain ⟨nI, es⟩ := g
  simp only at hnn hl
  subst hnn
  refine ACall.of_body Try.func13 rfl (by kernel_rfl) ?_
  simp only [entry, Try.ntmps13, tG]
  refine zU ?_
  refine zR (zc @llRows_len (zc @oI_len trivial)) (zc hC (zc hE (zc hB trivial))) trivial ?_
  rw [← tmF_zero L]
  refine AWp.loopS (α:=Nat) 91 (fun i=>[(1,.c (.ptr 0 0)),(5,.c (.slice (pRows (LI L)) .none)),(6,.c (.ptr 1 0)),(23,.c (.slice (llRows (oI bs)) .none)),(24,.c (.int .i64 (bs.length : Int))),(25,.c (.int .i64 (i : Int)))]) (fun i=>[.box [.int .i64 (n : Int), .slice (eRows es) .none], .box (fC (tmF L (bs.take i) []))]) (fun i=>i ≤ bs.length) (fun i=>bs.length - i) (0) (hk:=Weak.headL 2 91 [1, 5, 6, 23, 24, 25] (zV @fC_in)) (h0:=?_) (round:=fun i hI=>?_)
  ·exact Nat.zero_le _
  ·have hi : i ≤ bs.length := hI
   clear hI
   by_cases hlt : i < bs.length
   ·have hltI : (i : Int) < (bs.length : Int) := by omega
    have e0 := List.getElem?_eq_getElem hlt
    have e1 := llRows_get (oI_get e0)
    obtain ⟨m1, m2, m3⟩ := hbm _ (List.getElem_mem hlt)
    have hBl := sorted_len m3 m2
    have hsn : bs.take (i + 1) = bs.take i ++ [bs[i]] := List.take_succ_eq_append_getElem hlt
    have hdone := fun (s : List Nat) h => tmF_done L (bs.take i) (bs[i]'hlt) (s := s) h
    rw [← hsn] at hdone
    have hcb : ∀ v, (bs.take i).countP (tB L v) ≤ 4000 := fun v => by
     have := List.countP_le_length (p := tB L v) (l := bs.take i)
     rw [List.length_take] at this; omega
    generalize bs[i] = B at *
    have hib : inN L (B.take 0) = [] := rfl
    repeat' ((fail_if_success (with_reducible refine AWp.atSeq 11 ?_));(fail_if_success (with_reducible refine AWp.atLast 11 ?_));first|((first|(refine zT ?_;intro K' hK')|(refine zG ?_ ?_<;>(try refine zH ?_)<;>intro hguard<;>(try exact zX)<;>try intro K' hK'))<;>((try simp +contextual only [go_sem, hltI, e1, iRows_len, zI_len, Int.toNat_natCast, Nat.mul_one]);(repeat' first|(with_reducible refine hK' _ _ ?_;clear hK' K')|exact zY|with_reducible refine And.intro ?_ ?_|(with_reducible intro hpath;try exact zP)|(refine hK' _ _ ?_;clear hK' K')|fail);try refine zS ?_))|(refine zE ?_;refine hK _ _ ?_;clear hK K)|(refine zN ?_;try refine zS ?_)|refine zA ?_|(refine zB ?_;intro K hK)|(refine zC ?_ ?_<;>(try refine zH ?_)<;>intro hcond<;>try exact zX)|fail)
    refine AWp.loopS (α:=Nat) 91 (fun k=>[(1,.c (.ptr 0 0)),(5,.c (.slice (pRows (LI L)) .none)),(6,.c (.ptr 1 0)),(9,.c (.map 2)),(23,.c (.slice (llRows (oI bs)) .none)),(24,.c (.int .i64 (bs.length : Int))),(25,.c (.int .i64 (i : Int))),(30,.c (.slice (iRows (zI B)) .none)),(31,.c (.int .i64 (B.length : Int))),(32,.c (.int .i64 (k : Int)))]) (fun k=>[.box [.int .i64 (n : Int), .slice (eRows es) .none], .box (fC (tmF L (bs.take i) [])), .map (mT (inN L (B.take k)))]) (fun k=>k ≤ B.length) (fun k=>B.length - k) (0) (hk:=Weak.headL 3 91 [1, 5, 6, 9, 23, 24, 25, 30, 31, 32] (zV @fC_in)) (h0:=?_) (round:=fun k hI=>?_)
    ·exact Nat.zero_le _
    ·have hk : k ≤ B.length := hI
     clear hI
     by_cases hkl : k < B.length
     ·have hklI : (k : Int) < (B.length : Int) := by omega
      have b0 := List.getElem?_eq_getElem hkl
      have b1 := zI_get b0
      have hx := m2 _ (List.getElem_mem hkl)
      have hBs : B.take (k + 1) = B.take k ++ [B[k]] := List.take_succ_eq_append_getElem hkl
      have hin := inN_snoc L (B.take k) B[k]
      rw [← hBs] at hin
      generalize B[k] = x at *
      have e3 := LI_get (List.getElem?_eq_getElem hx)
      have hxI : (x : Int) < (L.length : Int) := by omega
      have hed : edL L x = L[x] := by unfold edL; rw [List.getD_eq_getElem?_getD, List.getElem?_eq_getElem hx]; rfl
      unfold inStep at hin
      rw [hed] at hin
      generalize L[x] = p at *
      generalize inN L (B.take k) = l at *
      by_cases h2 : p.1 = p.2
      ·rw [if_pos h2] at hin
       have h2I : (p.1 : Int) = (p.2 : Int) := by omega
       repeat' (first|((first|(refine zT ?_;intro K' hK')|(refine zG ?_ ?_<;>(try refine zH ?_)<;>intro hguard<;>(try exact zX)<;>try intro K' hK'))<;>((try simp +contextual only [go_sem, hklI, b1, e3, hxI, h2I, iRows_len, zI_len, pRows_len, LI_len, Int.toNat_natCast, Nat.mul_one]);(repeat' first|(with_reducible refine hK' _ _ ?_;clear hK' K')|exact zY|with_reducible refine And.intro ?_ ?_|(with_reducible intro hpath;try exact zP)|(refine hK' _ _ ?_;clear hK' K')|fail);try refine zS ?_))|(refine zE ?_;refine hK _ _ ?_;clear hK K)|(refine zN ?_;try refine zS ?_)|refine zA ?_|(refine zB ?_;intro K hK)|(refine zC ?_ ?_<;>(try refine zH ?_)<;>intro hcond<;>try exact zX)|fail)
       rw [← hin]
       refine ⟨k + 1,Weak.headN 3 91 [1, 5, 6, 9, 23, 24, 25, 30, 31, 32] (zV @fC_in),?_,?_⟩
       ·exact hkl
       ·omega
      ·rw [if_neg h2] at hin
       have h2I : ¬ (p.1 : Int) = (p.2 : Int) := by omega
       repeat' (first|(with_reducible refine AWp.seq_drawM mapIB klInt zeroB (by with_unfolding_all rfl) (by with_unfolding_all kernel_rfl) (fun K hK=>?_))|(with_reducible refine AWp.last_drawM mapIB klInt zeroB (by with_unfolding_all rfl) (by with_unfolding_all kernel_rfl) (fun K hK=>?_))|((first|(refine zT ?_;intro K' hK')|(refine zG ?_ ?_<;>(try refine zH ?_)<;>intro hguard<;>(try exact zX)<;>try intro K' hK'))<;>((try simp +contextual only [go_sem, hklI, b1, e3, hxI, h2I, iRows_len, zI_len, pRows_len, LI_len, Int.toNat_natCast, Nat.mul_one, toKey, mSet_mAdd, mPut_mT]);(repeat' first|(with_reducible refine hK' _ _ ?_;clear hK' K')|(exact rfl)|(exact mT_ok _)|(with_reducible refine ⟨_,rfl,?_⟩;try simp +contextual only [go_sem, hklI, b1, e3, hxI, h2I, iRows_len, zI_len, pRows_len, LI_len, Int.toNat_natCast, Nat.mul_one, toKey, mSet_mAdd, mPut_mT])|(exact mStamp_lt _ _ _)|exact zY|with_reducible refine And.intro ?_ ?_|(with_reducible intro hpath;try exact zP)|(refine hK' _ _ ?_;clear hK' K')|fail);try refine zS ?_))|(refine zE ?_;refine hK _ _ ?_;clear hK K)|(refine zN ?_;try refine zS ?_)|refine zA ?_|(refine zB ?_;intro K hK)|(refine zC ?_ ?_<;>(try refine zH ?_)<;>intro hcond<;>try exact zX)|fail)
       rw [← hin]
       refine ⟨k + 1,Weak.headN 3 91 [1, 5, 6, 9, 23, 24, 25, 30, 31, 32] (zV @fC_in),?_,?_⟩
       ·exact hkl
       ·omega
     ·have hnl : ¬ (k : Int) < (B.length : Int) := by omega
      have ek : k = B.length := by omega
      subst ek
      rw [List.take_length]
      obtain ⟨n1, n2, n3⟩ := inN_ok L B
      have hv12 : ∀ x, x ∈ inN L B → x < 12 := fun x hx => by
       have := (n3 x).1 hx
       unfold tB at this
       rw [List.any_eq_true] at this
       obtain ⟨e, he, hh⟩ := this
       simp only [Bool.and_eq_true, Bool.or_eq_true, decide_eq_true_eq] at hh
       have hel := m2 e he
       have hm : edL L e ∈ L := by unfold edL; rw [List.getD_eq_getElem?_getD, List.getElem?_eq_getElem hel]; exact List.getElem_mem hel
       have := hLn _ hm
       omega
      generalize inN L B = ins at *
      repeat' ((fail_if_success (with_reducible refine AWp.atSeq 17 ?_));(fail_if_success (with_reducible refine AWp.atLast 17 ?_));first|((first|(refine zT ?_;intro K' hK')|(refine zG ?_ ?_<;>(try refine zH ?_)<;>intro hguard<;>(try exact zX)<;>try intro K' hK'))<;>((try simp +contextual only [go_sem, hnl]);(repeat' first|(with_reducible refine hK' _ _ ?_;clear hK' K')|exact zY|with_reducible refine And.intro ?_ ?_|(with_reducible intro hpath;try exact zP)|(refine hK' _ _ ?_;clear hK' K')|fail);try refine zS ?_))|(refine zE ?_;refine hK _ _ ?_;clear hK K)|(refine zN ?_;try refine zS ?_)|refine zA ?_|(refine zB ?_;intro K hK)|(refine zC ?_ ?_<;>(try refine zH ?_)<;>intro hcond<;>try exact zX)|fail)
      refine AWp.loopS (α:=List Nat) 91 (fun seen=>[(1,.c (.ptr 0 0)),(5,.c (.slice (pRows (LI L)) .none)),(6,.c (.ptr 1 0)),(23,.c (.slice (llRows (oI bs)) .none)),(24,.c (.int .i64 (bs.length : Int))),(25,.c (.int .i64 (i : Int))),(65,.c (.iter 3))]) (fun seen=>[.box [.int .i64 (n : Int), .slice (eRows es) .none], .box (fC (tmF L (bs.take i) (pickL ins seen))), .map (mT ins), .iter 2 (mT ins).length seen]) (fun seen=>seen.Nodup ∧ (∀ j, j ∈ seen → j < ins.length)) (fun seen=>ins.length - seen.length) ([]) (hk:=Weak.headL 4 91 [1, 5, 6, 23, 24, 25, 65] (zV @fC_in)) (h0:=?_) (round:=fun seen hI=>?_)
      ·exact ⟨List.nodup_nil, fun j hj => (by cases hj)⟩
      ·obtain ⟨hn, hlt2⟩ := hI
       have hsl := nodup_len hn hlt2
       refine AWp.seq_next rfl rfl rfl rfl rfl (fun hd K hK => ?_) (fun j e hj he K hK => ?_) <;> (try refine zS ?_)
       ·have hall : ∀ x, x ∈ pickL ins seen ↔ x ∈ ins := fun x => by
         rw [pickL_mem]
         constructor
         ·rintro ⟨j, _, h⟩; exact List.mem_of_getElem? h
         ·intro hx
          obtain ⟨j, hj⟩ := List.mem_iff_getElem?.1 hx
          exact ⟨j, hd j (by rw [mT_len]; exact (List.getElem?_eq_some_iff.1 hj).1), hj⟩
        rw [hdone _ hall]
        repeat' (first|((first|(refine zT ?_;intro K' hK')|(refine zG ?_ ?_<;>(try refine zH ?_)<;>intro hguard<;>(try exact zX)<;>try intro K' hK'))<;>((try simp +contextual only [go_sem]);(repeat' first|(with_reducible refine hK' _ _ ?_;clear hK' K')|exact zY|with_reducible refine And.intro ?_ ?_|(with_reducible intro hpath;try exact zP)|(refine hK' _ _ ?_;clear hK' K')|fail);try refine zS ?_))|(refine zE ?_;refine hK _ _ ?_;clear hK K)|(refine zN ?_;try refine zS ?_)|refine zA ?_|(refine zB ?_;intro K hK)|(refine zC ?_ ?_<;>(try refine zH ?_)<;>intro hcond<;>try exact zX)|fail)
        refine ⟨i + 1,Weak.headN 2 91 [1, 5, 6, 23, 24, 25] (zV @fC_in),?_,?_⟩
        ·exact hlt
        ·omega
       ·obtain ⟨x, hx, rfl⟩ := mT_get he
        have hje : j < ins.length := (List.getElem?_eq_some_iff.1 hx).1
        have hnd : (seen ++ [j]).Nodup := List.nodup_append.2 ⟨hn, by simp, fun a ha b hb => by simp at hb; subst hb; rintro rfl; exact hj ha⟩
        have hlt3 : ∀ i, i ∈ seen ++ [j] → i < ins.length := fun i hi => by
         rcases List.mem_append.1 hi with hi | hi
         ·exact hlt2 i hi
         ·simp at hi; subst hi; exact hje
        have hsl2 := nodup_len hnd hlt3
        have hx12 := hv12 x (List.mem_of_getElem? hx)
        have hnp : x ∉ pickL ins seen := fun hp => by
         obtain ⟨j', hj', he'⟩ := pickL_mem.1 hp
         obtain ⟨q1, q2⟩ := List.getElem?_eq_some_iff.1 hx
         obtain ⟨q3, q4⟩ := List.getElem?_eq_some_iff.1 he'
         have := nodup_at n1 q3 q1 (q4.trans q2.symm)
         subst this; exact hj hj'
        have hset := tmF_set L (bs.take i) (pickL ins seen) hx12 hnp
        have hget := tmF_get L (bs.take i) (pickL ins seen) hx12
        rw [if_neg hnp] at hget
        rw [← pickL_snoc hx] at hset
        have hfl := tmF_len L (bs.take i) (pickL ins seen)
        have hc4 := hcb x
        generalize (bs.take i).countP (tB L x) = c at *
        generalize tmF L (bs.take i) (pickL ins seen) = F at *
        have f0 : (fC F)[x]? = some (.int .i64 (c : Int)) := by rw [fC_get (by omega), hget]; rfl
        have f1 := fC_set F x (c + 1)
        have f2 := fC_set2 F x (c + 1)
        rw [hset] at f1 f2
        have hx0 : 0 ≤ (x : Int) := by omega
        have hx11 : x ≤ 11 := by omega
        have hxI12 : (x : Int) < 12 := by omega
        have hci : (c : Int) + 1 = ((c + 1 : Nat) : Int) := by omega
        simp only [keyVal, mvVal]
        repeat' (first|((first|(refine zT ?_;intro K' hK')|(refine zG ?_ ?_<;>(try refine zH ?_)<;>intro hguard<;>(try exact zX)<;>try intro K' hK'))<;>((try simp +contextual only [go_sem, mT_at hx, mT_len, f0, f1, f2, fC_len, hfl, hx0, hx11, hxI12, hci, Int.toNat_natCast, Nat.mul_one]);(repeat' first|(with_reducible refine hK' _ _ ?_;clear hK' K')|exact zY|with_reducible refine And.intro ?_ ?_|(with_reducible intro hpath;try exact zP)|(refine hK' _ _ ?_;clear hK' K')|fail);try refine zS ?_))|(refine zE ?_;refine hK _ _ ?_;clear hK K)|(refine zN ?_;try refine zS ?_)|refine zA ?_|(refine zB ?_;intro K hK)|(refine zC ?_ ?_<;>(try refine zH ?_)<;>intro hcond<;>try exact zX)|fail)
        refine ⟨seen ++ [j],Weak.headF 4 91 [1, 5, 6, 23, 24, 25, 65] (zc @mT_len trivial) (zV @fC_in),?_,?_⟩
        ·exact ⟨hnd, hlt3⟩
        ·simp at hsl2 ⊢; omega
   ·have hnl : ¬ (i : Int) < (bs.length : Int) := by omega
    have ei : i = bs.length := by omega
    subst ei
    rw [List.take_length]
    repeat' ((fail_if_success (with_reducible refine AWp.atSeq 23 ?_));(fail_if_success (with_reducible refine AWp.atLast 23 ?_));first|((first|(refine zT ?_;intro K' hK')|(refine zG ?_ ?_<;>(try refine zH ?_)<;>intro hguard<;>(try exact zX)<;>try intro K' hK'))<;>((try simp +contextual only [go_sem, hnl]);(repeat' first|(with_reducible refine hK' _ _ ?_;clear hK' K')|exact zY|with_reducible refine And.intro ?_ ?_|(with_reducible intro hpath;try exact zP)|(refine hK' _ _ ?_;clear hK' K')|fail);try refine zS ?_))|(refine zE ?_;refine hK _ _ ?_;clear hK K)|(refine zN ?_;try refine zS ?_)|refine zA ?_|(refine zB ?_;intro K hK)|(refine zC ?_ ?_<;>(try refine zH ?_)<;>intro hcond<;>try exact zX)|fail)
    have hfl := tmF_len L bs []
    have hget := fun v hv => tmF_get L bs [] (v := v) hv
    simp only [List.not_mem_nil, if_false, Nat.add_zero] at hget
    have ha0 : zI (artI L bs 0) = [] := rfl
    refine AWp.weak (Weak.opens ((fun t f => [f, f, f, f, f, f, f, f, f, f, f, f, f, t, f, f, f, f, f, f, f, f, f, f, f, f, f, f, f, f, f, f, f, f, f, f, f, f, f, f, f, f, f, f, f, f, f, f, f, f, f, f, f, f, f, f, f, f, f, f, f, f, f, f, f, f, f, f, f, f, f, f, f, f, f, f, f, f, f, f, f, f, f, f, f, f, f, f, f, f, f]) true false) 1 (by first | omega | simp)) ?_
    simp only [openS, openV, List.length_cons, List.length_nil, List.length_append, Nat.reduceAdd, List.cons_append, List.nil_append]
    refine AWp.loopS (α:=Nat) 91 (fun v=>[(6,.c (.ptr 1 0)),(13,.c (.slice (iRows (zI (artI L bs v))) (.chain 2))),(77,.c (.int .i64 (n : Int))),(78,.c (.int .i64 (v : Int)))]) (fun v=>[.box [.int .i64 (n : Int), .slice (eRows es) .none], .box (fC (tmF L bs [])), .chain (artI L bs v).length 1]) (fun v=>v ≤ n) (fun v=>n - v) (0) (hk:=Weak.headL 3 91 [6, 13, 77, 78] (zV @fC_in)) (h0:=?_) (round:=fun v hI=>?_)
    ·exact Nat.zero_le _
    ·have hv : v ≤ n := hI
     clear hI
     by_cases hvl : v < n
     ·have hvI : (v : Int) < (n : Int) := by omega
      have hg := hget v (by omega)
      have f0 := fC_get (F := tmF L bs []) (i := v) (by omega)
      rw [hg] at f0
      have hsu := artI_succ L bs v
      have hal := artI_len L bs v
      have hv11 : v ≤ 11 := by omega
      have hv0 : 0 ≤ (v : Int) := by omega
      generalize bs.countP (tB L v) = c at *
      generalize tmF L bs [] = F at *
      by_cases hc1 : 1 < c
      ·rw [if_pos hc1] at hsu
       have hc1I : (1 : Int) < (c : Int) := by omega
       have hzs := zI_snoc (artI L bs v) v
       rw [← hsu] at hzs
       have hln : (artI L bs (v + 1)).length = (artI L bs v).length + 1 := by rw [hsu]; simp
       generalize artI L bs v = d at *
       repeat' (first|((first|(refine zT ?_;intro K' hK')|(refine zG ?_ ?_<;>(try refine zH ?_)<;>intro hguard<;>(try exact zX)<;>try intro K' hK'))<;>((try simp +contextual only [go_sem, hvI, f0, hv11, hv0, hc1I, fC_len, hfl, iRows_len, iRows_snoc, zI_len, Int.toNat_natCast, Nat.mul_one, chunks, List.range, List.range.loop]);(repeat' first|(with_reducible refine hK' _ _ ?_;clear hK' K')|(with_reducible exact iRows_k' (by assumption))|exact zY|with_reducible refine And.intro ?_ ?_|(with_reducible intro hpath;try exact zP)|(refine hK' _ _ ?_;clear hK' K')|fail);try refine zS ?_))|(refine zE ?_;refine hK _ _ ?_;clear hK K)|(refine zN ?_;try refine zS ?_)|refine zA ?_|(refine zB ?_;intro K hK)|(refine zC ?_ ?_<;>(try refine zH ?_)<;>intro hcond<;>try exact zX)|fail)
       rw [hzs]
       refine ⟨v + 1,Weak.headF 3 91 [6, 13, 77, 78] (zc @hln trivial) (zV @fC_in),?_,?_⟩
       ·exact hvl
       ·omega
      ·rw [if_neg hc1] at hsu
       have hc1I : ¬ (1 : Int) < (c : Int) := by omega
       repeat' (first|((first|(refine zT ?_;intro K' hK')|(refine zG ?_ ?_<;>(try refine zH ?_)<;>intro hguard<;>(try exact zX)<;>try intro K' hK'))<;>((try simp +contextual only [go_sem, hvI, f0, hv11, hv0, hc1I, fC_len, hfl, iRows_len, zI_len, Int.toNat_natCast, Nat.mul_one]);(repeat' first|(with_reducible refine hK' _ _ ?_;clear hK' K')|exact zY|with_reducible refine And.intro ?_ ?_|(with_reducible intro hpath;try exact zP)|(refine hK' _ _ ?_;clear hK' K')|fail);try refine zS ?_))|(refine zE ?_;refine hK _ _ ?_;clear hK K)|(refine zN ?_;try refine zS ?_)|refine zA ?_|(refine zB ?_;intro K hK)|(refine zC ?_ ?_<;>(try refine zH ?_)<;>intro hcond<;>try exact zX)|fail)
       rw [← hsu]
       refine ⟨v + 1,Weak.headN 3 91 [6, 13, 77, 78] (zV @fC_in),?_,?_⟩
       ·exact hvl
       ·omega
     ·have hnl : ¬ (v : Int) < (n : Int) := by omega
      have ev : v = n := by omega
      subst ev
      refine zR (zc @hnl trivial) trivial trivial ?_
      simp [Rets, aret, Blk.cells, ty, Try.results13, ares, toT1, toT, borrow, borrow0, capCell, toTree0, tint, tints]
 ·rw [if_pos hc]
  generalize checkG g = E at *
  obtain ⟨n, es⟩ := g
  refine ACall.of_body Try.func13 rfl (by kernel_rfl) ?_
  simp only [entry, Try.ntmps13, tG]
  refine zU ?_
  refine zR (zc @hc trivial) (zc hC trivial) trivial ?_
  simp [Rets, aret, Blk.cells, ty, Try.results13, ares, toT1, toT, borrow, borrow0, capCell, toTree0, tint, tints, iRows]
@[simp] theorem it_zero (f : Nat → Nat) (s : Nat) : it f 0 s = s := rfl
structure TF (F : List Nat) (rt dp : Nat → Nat) : Prop where
 len : F.length = 12
 lt : ∀ i (h : i < F.length), F[i] < 12
 same : ∀ i (h : i < F.length), rt F[i] = rt i
 self : ∀ i (h : i < F.length), F[i] = i → rt i = i
 down : ∀ i (h : i < F.length), F[i] ≠ i → dp F[i] < dp i
 rlt : ∀ i, i < 12 → rt i < 12
 fix : ∀ i, i < 12 → F[rt i]? = some (rt i)
section
variable {F : List Nat} {rt dp : Nat → Nat}
end
structure TC (L : List (Int × Int)) (F : List Nat) (rt dp : Nat → Nat) : Prop where
 tf : TF F rt dp
 conn : ∀ u w, u < 12 → w < 12 → (rt u = rt w ↔ Conn L u w)
def acyc (M : List (Int × Int)) : Prop := ∀ k p, M[k]? = some p → ¬ Conn (M.take k) p.1.toNat p.2.toNat
theorem acyc_snoc {M : List (Int × Int)} {p : Int × Int} : acyc (M ++ [p]) ↔ acyc M ∧ ¬ Conn M p.1.toNat p.2.toNat := by
 constructor
 ·intro h
  refine ⟨fun k q hq => ?_, ?_⟩
  ·have hk := (List.getElem?_eq_some_iff.1 hq).1
   have := h k q (by rw [List.getElem?_append_left hk]; exact hq)
   rwa [List.take_append_of_le_length (by omega)] at this
  ·have := h M.length p (by rw [List.getElem?_append_right (by omega)]; simp)
   rwa [List.take_append_of_le_length (by omega), List.take_length] at this
 ·rintro ⟨h1, h2⟩ k q hq
  rw [List.getElem?_append] at hq
  split at hq
  ·rename_i hk
   rw [List.take_append_of_le_length (by omega)]
   exact h1 k q hq
  ·have hk : k = M.length := by
    have := (List.getElem?_eq_some_iff.1 hq).1
    simp at this; omega
   subst hk
   simp at hq; subst hq
   rw [List.take_append_of_le_length (by omega), List.take_length]
   exact h2
theorem acyc_nil : acyc [] := fun k p h => by simp at h
theorem ncls_snoc_in {n : Nat} {M : List (Int × Int)} {a b : Nat} (h : Conn M a b) : ncls n (Conn (M ++ [((a : Int), (b : Int))])) = ncls n (Conn M) := ncls_congr fun x y _ _ => by
 rw [conn_snoc]
 constructor
 ·rintro (q | ⟨q1, q2⟩)
  ·exact q
  ·rcases q1 with q1 | q1 <;> rcases q2 with q2 | q2
   ·exact q1.symm.trans q2
   ·exact q1.symm.trans (h.trans q2)
   ·exact q1.symm.trans (h.symm.trans q2)
   ·exact q1.symm.trans q2
 ·exact .inl
theorem ncls_snoc_new {n : Nat} {M : List (Int × Int)} {a b : Nat} (ha : a < n) (hb : b < n) (h : ¬ Conn M a b) : ncls n (Conn (M ++ [((a : Int), (b : Int))])) + 1 = ncls n (Conn M) :=
 ncls_join (conn_eqv n M) ha hb h fun x y _ _ => conn_snoc
def InN (n : Nat) (M : List (Int × Int)) : Prop := ∀ p, p ∈ M → (0 ≤ p.1 ∧ p.1 < n) ∧ (0 ≤ p.2 ∧ p.2 < n)
theorem ncls_len {n : Nat} (M : List (Int × Int)) (h : InN n M) : n ≤ ncls n (Conn M) + M.length ∧ (acyc M ↔ ncls n (Conn M) + M.length = n) := by
 revert h
 refine snoc_ind (P := fun M => InN n M → n ≤ ncls n (Conn M) + M.length ∧ (acyc M ↔ ncls n (Conn M) + M.length = n)) ?_ ?_ M
 ·intro _
  rw [conn_nil_ncls]
  exact ⟨Nat.le_refl _, fun _ => rfl, fun _ => acyc_nil⟩
 ·intro M p ih h
  obtain ⟨i1, i2⟩ := ih fun q hq => h q (by simp [hq])
  have hp := h p (by simp)
  obtain ⟨p1, p2⟩ := p
  obtain ⟨a, rfl⟩ := Int.eq_ofNat_of_zero_le hp.1.1
  obtain ⟨b, rfl⟩ := Int.eq_ofNat_of_zero_le hp.2.1
  have ha : a < n := by have := hp.1.2; simp only at this; omega
  have hb : b < n := by have := hp.2.2; simp only at this; omega
  rw [acyc_snoc, List.length_append, List.length_singleton, i2]
  show _ ∧ (_ ∧ ¬ Conn M a b ↔ _)
  by_cases hc : Conn M a b
  ·have e : ncls n (Conn (M ++ [(((a : Nat) : Int), ((b : Nat) : Int))])) = _ := ncls_snoc_in hc
   rw [e]
   exact ⟨by omega, fun ⟨_, q⟩ => absurd hc q, fun q => by omega⟩
  ·have e : ncls n (Conn (M ++ [(((a : Nat) : Int), ((b : Nat) : Int))])) + 1 = _ := ncls_snoc_new ha hb hc
   exact ⟨by omega, fun ⟨q, _⟩ => by omega, fun q => ⟨by omega, hc⟩⟩
def pkL (L : List (Int × Int)) (t : List Int) : List (Int × Int) := t.map fun x => L.getD x.toNat (0, 0)
theorem pkL_len (L : List (Int × Int)) (t : List Int) : (pkL L t).length = t.length := by simp [pkL]
theorem pkL_in {n : Nat} {L : List (Int × Int)} {t : List Int} (hL : InN n L) (ht : ∀ x, x ∈ t → 0 ≤ x ∧ x < L.length) : InN n (pkL L t) := fun p hp => by
 obtain ⟨x, hx, rfl⟩ := List.mem_map.1 hp
 have := ht x hx
 rw [List.getD_eq_getElem?_getD, List.getElem?_eq_getElem (by omega)]
 exact hL _ (List.getElem_mem _)
theorem subE_range {n : Int} : ∀ {p : Option Int} {l : List Int}, subE n p l = 0 → ∀ x, x ∈ l → 0 ≤ x ∧ x < n
 | _, [], _, x, hx => by cases hx
 | p, v :: l, h, x, hx => by
  rw [subE] at h
  by_cases hv : 0 ≤ v ∧ v < n
  ·rw [if_neg (by omega)] at h
   split at h
   ·omega
   ·rcases List.mem_cons.1 hx with rfl | hx
    ·exact hv
    ·exact subE_range h x hx
  ·rw [if_pos hv] at h; omega
theorem SameInts_ok (a b : List Int) (ha : a.length < 2 ^ 40) (hb : b.length < 2 ^ 40) : ACall Try.prog 53 [tints a, tints b] (tbool (decide (a = b))) := by
 refine ACall.of_body Try.func53 rfl (by kernel_rfl) ?_
 simp only [entry, Try.ntmps53, tints]
 refine zU ?_
 by_cases hlen : a.length = b.length
 case neg =>
  have hI : ¬ ((a.length : Int) = b.length) := by omega
  rw [decide_eq_false (fun e => hlen (by rw [e]))]
  refine zR (zc @iRows_len (zc @hI trivial)) trivial trivial ?_
  simp [Rets, aret, Blk.cells, ty, Try.results53, ares, toT1, toT, borrow, borrow0, capCell, toTree0, tbool]
 have hI : ((a.length : Int) = b.length) := by omega
 refine zR (zc @iRows_len (zc @hI trivial)) trivial trivial ?_
 refine AWp.loopS (α:=Nat) 26 (fun i=>[(0,.c (.slice (iRows a) .none)),(1,.c (.slice (iRows b) .none)),(5,.c (.int .i64 (i : Int)))]) (fun i=>[]) (fun i=>i ≤ b.length ∧ a.take i = b.take i) (fun i=>b.length - i) (0) (hk:=Weak.headL 0 26 [0, 1, 5] zW) (h0:=?_) (round:=fun i hI=>?_)
 ·exact ⟨Nat.zero_le _, rfl⟩
 ·obtain ⟨hi, hI2⟩ := hI
  by_cases hlt : i < b.length
  ·have hltI : (i : Int) < b.length := by omega
   have hia : i < a.length := by omega
   have e0 := List.getElem?_eq_getElem hia
   have f0 := List.getElem?_eq_getElem hlt
   have e1 := iRows_get e0
   have f1 := iRows_get f0
   have t1 : a.take (i + 1) = a.take i ++ [a[i]] := List.take_succ_eq_append_getElem hia
   have t2 : b.take (i + 1) = b.take i ++ [b[i]] := List.take_succ_eq_append_getElem hlt
   generalize a[i] = x at *
   generalize b[i] = y at *
   by_cases hxy : x = y
   ·subst hxy
    refine zR (zc @hltI (zc @iRows_len (zc @hI (zc @e1 (zc @f1 trivial))))) trivial trivial ?_
    refine ⟨i + 1,Weak.headN 0 26 [0, 1, 5] zW,?_,?_⟩
    ·exact ⟨hlt, by rw [t1, t2, hI2]⟩
    ·omega
   ·rw [decide_eq_false (fun e => hxy (by subst e; rw [e0] at f0; exact Option.some.inj f0))]
    refine zR (zc @hltI (zc @iRows_len (zc @hI (zc @e1 (zc @f1 (zc @hxy trivial)))))) trivial trivial ?_
    simp [Rets, aret, Blk.cells, ty, Try.results53, ares, toT1, toT, borrow, borrow0, capCell, toTree0, tbool]
  ·have ei : i = b.length := by omega
   have hab : a = b := by
    rw [List.take_of_length_le (by omega), List.take_of_length_le (by omega)] at hI2
    exact hI2
   rw [decide_eq_true hab]
   have hnl : ¬ ((i : Int) < b.length) := by omega
   refine zR (zc @hnl (zc @iRows_len (zc @hI trivial))) trivial trivial ?_
   simp [Rets, aret, Blk.cells, ty, Try.results53, ares, toT1, toT, borrow, borrow0, capCell, toTree0, tbool]
theorem SameLists_ok (a b : List (List Int)) (ha : a.length < 2 ^ 40) (hb : b.length < 2 ^ 40) (hal : ∀ l, l ∈ a → l.length < 2 ^ 40) (hbl : ∀ l, l ∈ b → l.length < 2 ^ 40) :
  ACall Try.prog 19 [tlists a, tlists b] (tbool (decide (a = b))) := by
 refine ACall.of_body Try.func19 rfl (by kernel_rfl) ?_
 simp only [entry, Try.ntmps19, tlists]
 refine zU ?_
 by_cases hlen : a.length = b.length
 case neg =>
  have hI : ¬ ((a.length : Int) = b.length) := by omega
  rw [decide_eq_false (fun e => hlen (by rw [e]))]
  refine zR (zc @llRows_len (zc @hI trivial)) trivial trivial ?_
  simp [Rets, aret, Blk.cells, ty, Try.results19, ares, toT1, toT, borrow, borrow0, capCell, toTree0, tbool]
 have hI : ((a.length : Int) = b.length) := by omega
 refine zR (zc @llRows_len (zc @hI trivial)) trivial trivial ?_
 refine AWp.loopS (α:=Nat) 27 (fun i=>[(0,.c (.slice (llRows a) .none)),(1,.c (.slice (llRows b) .none)),(5,.c (.int .i64 (i : Int)))]) (fun i=>[]) (fun i=>i ≤ b.length ∧ a.take i = b.take i) (fun i=>b.length - i) (0) (hk:=Weak.headL 0 27 [0, 1, 5] zW) (h0:=?_) (round:=fun i hI=>?_)
 ·exact ⟨Nat.zero_le _, rfl⟩
 ·obtain ⟨hi, hI2⟩ := hI
  by_cases hlt : i < b.length
  ·have hltI : (i : Int) < b.length := by omega
   have hia : i < a.length := by omega
   have e0 := List.getElem?_eq_getElem hia
   have f0 := List.getElem?_eq_getElem hlt
   have e1 := llRows_get e0
   have f1 := llRows_get f0
   have hE := SameInts_ok a[i] b[i] (hal _ (List.getElem_mem hia)) (hbl _ (List.getElem_mem hlt))
   have t1 : a.take (i + 1) = a.take i ++ [a[i]] := List.take_succ_eq_append_getElem hia
   have t2 : b.take (i + 1) = b.take i ++ [b[i]] := List.take_succ_eq_append_getElem hlt
   generalize a[i] = x at *
   generalize b[i] = y at *
   by_cases hxy : x = y
   ·rw [decide_eq_true hxy] at hE
    refine zR (zc @hltI (zc @llRows_len (zc @hI (zc @e1 (zc @f1 trivial))))) (zc hE trivial) trivial ?_
    refine ⟨i + 1,Weak.headN 0 27 [0, 1, 5] zW,?_,?_⟩
    ·exact ⟨hlt, by rw [t1, t2, hI2, hxy]⟩
    ·omega
   ·rw [decide_eq_false hxy] at hE
    rw [decide_eq_false (fun e => hxy (by subst e; rw [e0] at f0; exact Option.some.inj f0))]
    refine zR (zc @hltI (zc @llRows_len (zc @hI (zc @e1 (zc @f1 trivial))))) (zc hE trivial) trivial ?_
    simp [Rets, aret, Blk.cells, ty, Try.results19, ares, toT1, toT, borrow, borrow0, capCell, toTree0, tbool]
  ·have ei : i = b.length := by omega
   have hab : a = b := by
    rw [List.take_of_length_le (by omega), List.take_of_length_le (by omega)] at hI2
    exact hI2
   rw [decide_eq_true hab]
   have hnl : ¬ ((i : Int) < b.length) := by omega
   refine zR (zc @hnl (zc @llRows_len (zc @hI trivial))) trivial trivial ?_
   simp [Rets, aret, Blk.cells, ty, Try.results19, ares, toT1, toT, borrow, borrow0, capCell, toTree0, tbool]
end Go.Proofs.Ytgklecfiflhjmaa
