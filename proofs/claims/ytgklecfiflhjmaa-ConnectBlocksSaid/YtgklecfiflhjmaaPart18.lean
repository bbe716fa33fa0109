/- A part of the proof. -/
import Derived.Test.YtgklecfiflhjmaaPart16
import Derived.Test.YtgklecfiflhjmaaPart06
import Derived.Test.YtgklecfiflhjmaaPart17
import Derived.Test.YtgklecfiflhjmaaPart04
import Derived.Test.YtgklecfiflhjmaaLayerD
import Derived.Test.YtgklecfiflhjmaaLayerC
import Derived.Test.YtgklecfiflhjmaaPart02
import Derived.Test.YtgklecfiflhjmaaPart13
import Derived.Test.YtgklecfiflhjmaaPart07
import Derived.Test.YtgklecfiflhjmaaPart12
import Derived.Test.YtgklecfiflhjmaaPart09
import Derived.Test.YtgklecfiflhjmaaPart11
set_option linter.all false
set_option maxHeartbeats 4000000
set_option maxRecDepth 100000
namespace Go.Proofs.Ytgklecfiflhjmaa
open Go.Sp
structure RSm (r : R) : Prop where
 es : r.es.length ≤ 40
 ar : r.ar.length < 2 ^ 20
 l : ∀ l, l ∈ r.ar → l.length < 2 ^ 20
theorem ends_len {g : G} (hl : g.es.length ≤ 40) (hc : checkG g = 0) : (endsL g.es).length ≤ 2000 := by
 obtain ⟨_, h2, _⟩ := checkG_zero.1 hc
 have := endsL_len (es := g.es) fun e he => by have := h2 e he; unfold okE at this; omega
 omega
set_option maxHeartbeats 1000000
@[simp] theorem chJ_ATf (L : List (Nat × Nat)) : (chJ (ATf L)).take 12 = chJ (ATf L) := chJ_take (by rw [ATf_len]; exact Nat.le_refl _)
theorem cends_ok (g : G) (hl : g.es.length < 2 ^ 30) (hc : checkG g = 0) : ACall Try.prog 44 [tG g] (tpairs (endsL g.es)) := by
 have hE := Ends_ok g hl
 rw [if_neg (fun h => h hc)] at hE
 refine ACall.of_body Try.func44 rfl (by kernel_rfl) ?_
 simp only [entry, Try.ntmps44, tG]
 refine zU ?_
 refine zR trivial (zc hE trivial) trivial ?_
 simp [Rets, aret, Blk.cells, ty, Try.results44, ares, toT1, toT, borrow, borrow0, capCell, toTree0, tpairs]
theorem eRows_all (es : List E) : (eRows es).all flatRow = true := by
 rw [List.all_eq_true]; intro r hr
 obtain ⟨x, _, rfl⟩ := List.mem_map.1 hr; rfl
theorem pRows_all (l : List (Int × Int)) : (pRows l).all flatRow = true := by
 rw [List.all_eq_true]; intro r hr
 obtain ⟨x, _, rfl⟩ := List.mem_map.1 hr; rfl
theorem iRows_all (l : List Int) : (iRows l).all flatRow = true := by
 rw [List.all_eq_true]; intro r hr
 obtain ⟨x, _, rfl⟩ := List.mem_map.1 hr; rfl
theorem atC_leaf (L : List (Nat × Nat)) : ∀ c, c ∈ atC L → leafC c := fun c hc => by
 obtain ⟨v, _, rfl⟩ := List.mem_map.1 hc
 exact iRows_all _
theorem ll_slice {l : List (List Int)} {r : List Tree} (h : r ∈ llRows l) : sliceRow r := by
 obtain ⟨x, _, rfl⟩ := List.mem_map.1 h
 intro t ht
 rw [List.mem_singleton] at ht
 subst ht
 exact ⟨_, rfl, iRows_all x⟩
theorem ll_flat (out : List (List Nat)) : flatRows (llRows (oI out)) = out.map fun x => ACell.slice (iRows (zI x)) .none := by
 unfold flatRows llRows oI
 induction out with
 | nil => rfl
 | cons x l ih => simp only [List.map_cons, List.flatten_cons, List.map_append, List.map_nil, List.singleton_append] at ih ⊢; rw [ih]; rfl
theorem leaf_all {l : List Blk} (h : ∀ b, b ∈ l → leafB b) (id : Nat) (blk : Blk) (hb : l[id]? = some blk) : leafB blk := h blk (List.mem_of_getElem? hb)
theorem ll_back (l : List (List Nat)) : (l.map fun x => ACell.slice (iRows (zI x)) .none).mapM toTree0 = some (l.map fun x => Tree.slice (iRows (zI x))) ∧ chunks 1 l.length (l.map fun x => Tree.slice (iRows (zI x))) = llRows (oI l) := by
 constructor
 ·induction l with
  | nil => rfl
  | cons x l ih => simp only [List.map_cons, List.mapM_cons, ih]; rfl
 ·have h := chunks_oneV (l.map fun x => Tree.slice (iRows (zI x)))
  rw [List.length_map] at h
  rw [h]; simp [llRows, oI]
theorem leaf5 (n : Int) (es : List E) (l : List (Int × Int)) (L : List (Nat × Nat)) (a b : Nat) : ∀ (id : Nat) (blk : Blk), [Blk.box [.int .i64 n, .slice (eRows es) .none], .box [.slice (pRows l) .none], .box (atC L), .box [.any], .chain a b][id]? = some blk → leafB blk := leaf_all fun blk hb => by
 simp only [List.mem_cons, List.not_mem_nil, or_false] at hb
 rcases hb with rfl | rfl | rfl | rfl | rfl
 ·intro c hc
  simp only [List.mem_cons, List.not_mem_nil, or_false] at hc
  rcases hc with rfl | rfl
  ·exact True.intro
  ·exact eRows_all es
 ·intro c hc
  rw [List.mem_singleton] at hc
  subst hc
  exact pRows_all l
 ·exact atC_leaf L
 ·intro c hc
  rw [List.mem_singleton] at hc
  subst hc
  exact True.intro
 ·exact True.intro
theorem blocks_ok (g : G) (n : Nat) (L : List (Nat × Nat)) (hl : g.es.length < 2 ^ 30) (hc : checkG g = 0) (hn : g.n = n) (hn12 : n ≤ 12) (hE : endsL g.es = LI L) (hLn : ∀ p, p ∈ L → p.1 < n ∧ p.2 < n) (hLl : L.length ≤ 2000) :
  ACall Try.prog 45 [tG g] (.t (.slice (llRows (oI (blocksB L n))))) := by
 have hL : ∀ p, p ∈ L → p.1 < 12 ∧ p.2 < 12 := fun p hp => ⟨by have := (hLn p hp).1; omega, by have := (hLn p hp).2; omega⟩
 have hen := cends_ok g hl hc
 rw [hE] at hen
 refine ACall.of_bodyF Try.func45 rfl (by kernel_rfl) ?_
 simp only [entry, Try.ntmps45, tG]
 refine zU ?_
 have LI_lenI : (LI L).length = L.length := by simp [LI]
 repeat' ((fail_if_success (with_reducible refine AWp.atSeq 5 ?_));(fail_if_success (with_reducible refine AWp.atLast 5 ?_));first|((first|(refine zT ?_;intro K' hK')|(refine zG ?_ ?_<;>(try refine zH ?_)<;>intro hguard<;>(try exact zX)<;>try intro K' hK'))<;>((try simp +contextual only [go_sem, pRows_len, LI_lenI]);(repeat' first|(with_reducible refine hK' _ _ ?_;clear hK' K')|(with_reducible refine zK hen ?_;try simp +contextual only [go_sem, pRows_len, LI_lenI])|exact zY|with_reducible refine And.intro ?_ ?_|(with_reducible intro hpath;try exact zP)|(refine hK' _ _ ?_;clear hK' K')|fail);try refine zS ?_))|(refine zE ?_;refine hK _ _ ?_;clear hK K)|(refine zN ?_;try refine zS ?_)|refine zA ?_|(refine zB ?_;intro K hK)|(refine zC ?_ ?_<;>(try refine zH ?_)<;>intro hcond<;>try exact zX)|(with_reducible refine FWp.seq ?_)|fail)
 refine AWp.weak (Weak.openB 3 0 1 rfl rfl (by omega)) ?_
 simp only [List.set_cons_succ, List.set_cons_zero, List.length_cons, List.length_nil, List.length_append, Nat.reduceAdd, List.cons_append, List.nil_append]
 refine AWp.weak (Weak.openBs 2 12 (pre := []) rfl (Nat.zero_le _)) ?_
 simp only [List.length_cons, List.length_nil, List.set_cons_zero, List.set_cons_succ, List.nil_append, List.cons_append, Nat.reduceAdd, chI_nil, chJ_nil, ← ATf_nil]
 refine AWp.loopS (α:=Nat) 74 (fun i=>[(1,.c (.ptr 0 0)),(3,.c (.ptr 1 0)),(4,.c (.ptr 2 0)),(5,.c (.ptr 3 0)),(18,.c (.int .i64 (L.length : Int))),(19,.c (.int .i64 (i : Int)))]) (fun i=>.box [.int .i64 g.n, .slice (eRows g.es) .none] :: .box [.slice (pRows (LI L)) .none] :: .box (chI 5 (ATf (L.take i))) :: .box [.slice (llRows (oI (loopsB (L.take i)))) (.chain 4)] :: .chain (loopsB (L.take i)).length 1 :: chJ (ATf (L.take i))) (fun i=>i ≤ L.length) (fun i=>L.length - i) (0) (hk:=Weak.headL (17) 74 [1, 3, 4, 5, 18, 19] (by (repeat' (first | exact valsIn_nil _ | exact blksIn_nil _ | exact cellsIn_nil _ | refine And.intro ?_ ?_ | refine valsIn_cons ?_ ?_ | refine blksIn_cons ?_ ?_ | refine cellsIn_cons ?_ ?_ | exact True.intro | exact vx_in (by assumption) | exact chI_in (by assumption) | exact chJ_in | exact fC_in | exact vcaps_in (by omega) | (show _ < _; omega) | exact cellsIn_map (fun _ => True.intro) | (intro c hc; cases hc; done) | (intro c hc; simp only [List.mem_cons, List.not_mem_nil, or_false] at hc; subst hc; exact True.intro) | (intro c hc; simp only [List.mem_cons, List.not_mem_nil, or_false] at hc; rcases hc with rfl | rfl <;> exact True.intro))))) (h0:=?_) (round:=fun i hI=>?_)
 ·exact Nat.zero_le _
 ·have hi : i ≤ L.length := hI
  clear hI
  by_cases hlt : i < L.length
  ·have hltI : (i : Int) < (L.length : Int) := by omega
   have hi0 : 0 ≤ (i : Int) := by omega
   have e0 := List.getElem?_eq_getElem hlt
   have e1 := LI_get e0
   have hp12 := hL _ (List.getElem_mem hlt)
   have htl : (L.take i).length = i := by rw [List.length_take]; omega
   have hsn : L.take (i + 1) = L.take i ++ [L[i]] := List.take_succ_eq_append_getElem hlt
   generalize L[i] = p at *
   have hlo := loopsB_snoc (L.take i) p
   rw [htl, ← hsn] at hlo
   have hll := loopsB_len (L.take i)
   rw [htl] at hll
   by_cases hp : p.1 = p.2
   ·rw [if_pos hp] at hlo
    have hat := ATf_loop (L := L.take i) hp
    rw [← hsn] at hat
    have hrs := llRows_snoc (oI (loopsB (L.take i))) [(i : Int)]
    have hos : oI (loopsB (L.take i)) ++ [[(i : Int)]] = oI (loopsB (L.take (i + 1))) := by rw [hlo]; simp [oI, zI]
    have hln : (loopsB (L.take (i + 1))).length = (loopsB (L.take i)).length + 1 := by rw [hlo]; simp
    rw [hos] at hrs
    change _ ++ [[Tree.slice [[Tree.int .i64 (i : Int)]]]] = _ at hrs
    rw [← hat]
    repeat' (first|((first|(refine zT ?_;intro K' hK')|(refine zG ?_ ?_<;>(try refine zH ?_)<;>intro hguard<;>(try exact zX)<;>try intro K' hK'))<;>((try simp +contextual only [go_sem, hltI, hi0, e1, hp, hrs, llRows_len, oI_len, pRows_len, LI_len, Int.toNat_natCast, Nat.mul_one, chunks, List.range, List.range.loop]);(repeat' first|(with_reducible refine hK' _ _ ?_;clear hK' K')|(with_reducible exact llRows_k' (by assumption))|exact zY|with_reducible refine And.intro ?_ ?_|(with_reducible intro hpath;try exact zP)|(refine hK' _ _ ?_;clear hK' K')|fail);try refine zS ?_))|(refine zE ?_;refine hK _ _ ?_;clear hK K)|(refine zN ?_;try refine zS ?_)|refine zA ?_|(refine zB ?_;intro K hK)|(refine zC ?_ ?_<;>(try refine zH ?_)<;>intro hcond<;>try exact zX)|fail)
    refine ⟨i + 1,Weak.headF (17) 74 [1, 3, 4, 5, 18, 19] (zc @hln trivial) (by (repeat' (first | exact valsIn_nil _ | exact blksIn_nil _ | exact cellsIn_nil _ | refine And.intro ?_ ?_ | refine valsIn_cons ?_ ?_ | refine blksIn_cons ?_ ?_ | refine cellsIn_cons ?_ ?_ | exact True.intro | exact vx_in (by assumption) | exact chI_in (by assumption) | exact chJ_in | exact fC_in | exact vcaps_in (by omega) | (show _ < _; omega) | exact cellsIn_map (fun _ => True.intro) | (intro c hc; cases hc; done) | (intro c hc; simp only [List.mem_cons, List.not_mem_nil, or_false] at hc; subst hc; exact True.intro) | (intro c hc; simp only [List.mem_cons, List.not_mem_nil, or_false] at hc; rcases hc with rfl | rfl <;> exact True.intro)))),?_,?_⟩
    ·exact hlt
    ·omega
   ·rw [if_neg hp] at hlo
    have hpI : ¬ (p.1 : Int) = (p.2 : Int) := by omega
    have hat := ATf_snoc (L := L.take i) hp
    rw [htl, ← hsn] at hat
    have ga := ATf_get (L.take i) hp12.1
    have gb := ATf_get (L.take i) hp12.2
    have la := atV_len (L.take i) p.1
    have lb := atV_len (L.take i) p.2
    have ll := ATf_len (L.take i)
    rw [htl] at la lb
    rw [← hlo]
    generalize atV (L.take i) p.1 = A at *
    generalize atV (L.take i) p.2 = B at *
    generalize ATf (L.take i) = f at *
    obtain ⟨a, b⟩ := p
    simp only at *
    have a1 := chI_get (b := 5) ga
    have a2 := chI_drop (b := 5) ga
    have a3 := chJ_get ga
    have b1 := chI_get (b := 5) gb
    have b2 := chI_drop (b := 5) gb
    have b3 := chJ_get gb
    have cl := chI_len 5 f
    rw [ll] at cl
    have ha11 : a ≤ 11 := by omega
    have hb11 : b ≤ 11 := by omega
    have haI : (a : Int) < ((12 : Nat) : Int) := by omega
    have hbI : (b : Int) < ((12 : Nat) : Int) := by omega
    have ha0 : 0 ≤ (a : Int) := by omega
    have hb0 : 0 ≤ (b : Int) := by omega
    have hch : chunks 1 1 [Tree.int .i64 (i : Int)] = [[Tree.int .i64 (i : Int)]] := rfl
    repeat' ((fail_if_success (with_reducible refine AWp.atSeq 10 ?_));(fail_if_success (with_reducible refine AWp.atLast 10 ?_));first|((first|(refine zT ?_;intro K' hK')|(refine zG ?_ ?_<;>(try refine zH ?_)<;>intro hguard<;>(try exact zX)<;>try intro K' hK'))<;>((try simp +contextual only [go_sem, hltI, hi0, e1, hpI, llRows_len, oI_len, pRows_len, LI_len, Int.toNat_natCast, Nat.mul_one]);(repeat' first|(with_reducible refine hK' _ _ ?_;clear hK' K')|exact zY|with_reducible refine And.intro ?_ ?_|(with_reducible intro hpath;try exact zP)|(refine hK' _ _ ?_;clear hK' K')|fail);try refine zS ?_))|(refine zE ?_;refine hK _ _ ?_;clear hK K)|(refine zN ?_;try refine zS ?_)|refine zA ?_|(refine zB ?_;intro K hK)|(refine zC ?_ ?_<;>(try refine zH ?_)<;>intro hcond<;>try exact zX)|fail)
    refine AWp.of_adr (by kernel_rfl) ?_
    refine ADr.segW' 18 [7, 13, 15, 17] [(40, .c (.int .i64 (a : Int))), (41, .c (.int .i64 (b : Int))), (42, .c (.int .i64 (a : Int))), (43, .c (.ptr 2 a)), (44, .c (.slice (iRows (zI A)) (.chain (a + 5)))), (45, .c (.int .i64 (i : Int))), (46, .c (.slice [[.int .i64 (i : Int)]] .exact)), (48, .c (.int .i64 (b : Int))), (49, .c (.ptr 2 b)), (50, .c (.slice (iRows (zI B)) (.chain (b + 5)))), (51, .c (.int .i64 (i : Int))), (52, .c (.slice [[.int .i64 (i : Int)]] .exact)), (54, .c (.ptr 2 a)), (55, .c (.ptr 2 b))] (by kernel_rfl) (by decide) (by decide) (by kernel_rfl) (zQW (And.intro haI (And.intro hbI (And.intro ha0 (And.intro hb0 (And.intro ha11 (And.intro hb11 (And.intro a1 (And.intro a2 (And.intro b1 (And.intro b2 (And.intro hch cl)))))))))))) ?_
    refine SegRunW.vc [7, 13, 15, 17] (by kernel_rfl) rfl rfl (fun K hK => ?_)
    simp only [go_sem, a3, iRows_len, zI_len, iRows_snoc]
    refine ⟨fun r hr => iRows_k' hr, by omega, by omega, ?_⟩
    refine hK _ _ ⟨zQW (And.intro haI (And.intro hbI (And.intro ha0 (And.intro hb0 (And.intro ha11 (And.intro hb11 (And.intro a1 (And.intro a2 (And.intro b1 (And.intro b2 (And.intro hch cl))))))))))), ?_⟩
    clear hK K
    simp only [setVals, aput, aeval, List.getD_cons_succ, List.getD_cons_zero, List.set_cons_succ, List.set_cons_zero]
    have b3' : ((chJ f).set a (.chain (A.length + 1) 1))[b]? = some (.chain (zI B).length 1) := by rw [List.getElem?_set_ne hp]; exact b3
    refine SegRunW.vc [7, 13, 15, 17] (by kernel_rfl) rfl rfl (fun K hK => ?_)
    simp only [go_sem, b3', iRows_len, zI_len, iRows_snoc]
    refine ⟨fun r hr => iRows_k' hr, by omega, by omega, ?_⟩
    refine hK _ _ ⟨zQW (And.intro haI (And.intro hbI (And.intro ha0 (And.intro hb0 (And.intro ha11 (And.intro hb11 (And.intro a1 (And.intro a2 (And.intro b1 (And.intro b2 (And.intro hch cl))))))))))), ?_⟩
    clear hK K
    simp only [setVals, aput, aeval, List.getD_cons_succ, List.getD_cons_zero, List.set_cons_succ, List.set_cons_zero]
    have a4 := chI_set 5 a f (zI A ++ [(i : Int)])
    have b4 := chI_set 5 b (f.set a (zI A ++ [(i : Int)])) (zI B ++ [(i : Int)])
    have cl2 : (chI 5 (f.set a (zI A ++ [(i : Int)]))).length = 12 := by rw [chI_len, List.length_set]; exact ll
    have cl3 : (chI 5 ((f.set a (zI A ++ [(i : Int)])).set b (zI B ++ [(i : Int)]))).length = 12 := by rw [chI_len, List.length_set, List.length_set]; exact ll
    have a5 := chJ_set a f (zI A ++ [(i : Int)]) (n := A.length + 1) (by simp [zI_len])
    have b5 := chJ_set b (f.set a (zI A ++ [(i : Int)])) (zI B ++ [(i : Int)]) (n := B.length + 1) (by simp [zI_len])
    rw [a5, b5]
    refine SegRunW.vc [7, 13, 15, 17, 4, 10] (by kernel_rfl) rfl rfl (fun K hK => ?_)
    simp only [go_sem, a4, cl, ha11, setMany, true_and]
    refine hK _ _ ⟨zQW (And.intro haI (And.intro hbI (And.intro ha0 (And.intro hb0 (And.intro ha11 (And.intro hb11 (And.intro hch cl2))))))), ?_⟩
    clear hK K
    simp only [setVals, aput, aeval, List.getD_cons_succ, List.getD_cons_zero, List.set_cons_succ, List.set_cons_zero]
    refine SegRunW.vc [7, 13, 15, 17, 4, 10] (by kernel_rfl) rfl rfl (fun K hK => ?_)
    simp only [go_sem, b4, cl2, hb11, setMany, true_and]
    refine hK _ _ ⟨zQW (And.intro haI (And.intro hbI (And.intro ha0 (And.intro hb0 (And.intro ha11 (And.intro hb11 (And.intro hch cl3))))))), ?_⟩
    clear hK K
    simp only [setVals, aput, aeval, List.getD_cons_succ, List.getD_cons_zero, List.set_cons_succ, List.set_cons_zero]
    refine SegRunW.nil' (ADr.done (by decide) ?_)
    rw [hat]
    repeat' (first|((first|(refine zT ?_;intro K' hK')|(refine zG ?_ ?_<;>(try refine zH ?_)<;>intro hguard<;>(try exact zX)<;>try intro K' hK'))<;>((try simp +contextual only [go_sem]);(repeat' first|(with_reducible refine hK' _ _ ?_;clear hK' K')|exact zY|with_reducible refine And.intro ?_ ?_|(with_reducible intro hpath;try exact zP)|(refine hK' _ _ ?_;clear hK' K')|fail);try refine zS ?_))|(refine zE ?_;refine hK _ _ ?_;clear hK K)|(refine zN ?_;try refine zS ?_)|refine zA ?_|(refine zB ?_;intro K hK)|(refine zC ?_ ?_<;>(try refine zH ?_)<;>intro hcond<;>try exact zX)|fail)
    refine ⟨i + 1,Weak.headN (17) 74 [1, 3, 4, 5, 18, 19] (by (repeat' (first | exact valsIn_nil _ | exact blksIn_nil _ | exact cellsIn_nil _ | refine And.intro ?_ ?_ | refine valsIn_cons ?_ ?_ | refine blksIn_cons ?_ ?_ | refine cellsIn_cons ?_ ?_ | exact True.intro | exact vx_in (by assumption) | exact chI_in (by assumption) | exact chJ_in | exact fC_in | exact vcaps_in (by omega) | (show _ < _; omega) | exact cellsIn_map (fun _ => True.intro) | (intro c hc; cases hc; done) | (intro c hc; simp only [List.mem_cons, List.not_mem_nil, or_false] at hc; subst hc; exact True.intro) | (intro c hc; simp only [List.mem_cons, List.not_mem_nil, or_false] at hc; rcases hc with rfl | rfl <;> exact True.intro)))),?_,?_⟩
    ·exact hlt
    ·omega
  ·have hnl : ¬ (i : Int) < (L.length : Int) := by omega
   have ei : i = L.length := by omega
   subst ei
   rw [List.take_length]
   repeat' ((fail_if_success (with_reducible refine AWp.atSeq 12 ?_));(fail_if_success (with_reducible refine AWp.atLast 12 ?_));first|((first|(refine zT ?_;intro K' hK')|(refine zG ?_ ?_<;>(try refine zH ?_)<;>intro hguard<;>(try exact zX)<;>try intro K' hK'))<;>((try simp +contextual only [go_sem, hnl]);(repeat' first|(with_reducible refine hK' _ _ ?_;clear hK' K')|exact zY|with_reducible refine And.intro ?_ ?_|(with_reducible intro hpath;try exact zP)|(refine hK' _ _ ?_;clear hK' K')|fail);try refine zS ?_))|(refine zE ?_;refine hK _ _ ?_;clear hK K)|(refine zN ?_;try refine zS ?_)|refine zA ?_|(refine zB ?_;intro K hK)|(refine zC ?_ ?_<;>(try refine zH ?_)<;>intro hcond<;>try exact zX)|(with_reducible refine FWp.seq ?_)|fail)
   refine AWp.weak (Weak.untokBox 2 5 (f := (ATf L).map iRows) rfl (Nat.zero_le _)) ?_
   simp only [List.set_cons_succ, List.set_cons_zero]
   have hac : ((ATf L).map iRows).map (fun r => ACell.slice r .none) = atC L := by simp [ATf, atC, Function.comp_def]
   rw [hac]
   refine AWp.weak (Weak.drop (m := 5) (Nat.zero_le _) ?_ ?_) ?_
   ·(repeat' (first | exact valsIn_nil _ | exact blksIn_nil _ | exact cellsIn_nil _ | refine And.intro ?_ ?_ | refine valsIn_cons ?_ ?_ | refine blksIn_cons ?_ ?_ | refine cellsIn_cons ?_ ?_ | exact True.intro | exact atC_in | (show _ < _; omega)))
   ·simp only [List.take_succ_cons, List.take_zero]
    (repeat' (first | exact valsIn_nil _ | exact blksIn_nil _ | exact cellsIn_nil _ | refine And.intro ?_ ?_ | refine valsIn_cons ?_ ?_ | refine blksIn_cons ?_ ?_ | refine cellsIn_cons ?_ ?_ | exact True.intro | exact atC_in | (show _ < _; omega)))
   simp only [List.take_succ_cons, List.take_zero]
   have hts : tSize Try.prog 81 = some 1 := by kernel_rfl
   repeat' ((fail_if_success (with_reducible refine AWp.atSeq 17 ?_));(fail_if_success (with_reducible refine AWp.atLast 17 ?_));first|((first|(refine zT ?_;intro K' hK')|(refine zG ?_ ?_<;>(try refine zH ?_)<;>intro hguard<;>(try exact zX)<;>try intro K' hK'))<;>((try simp +contextual only [go_sem, hts, Int.toNat_natCast]);(repeat' first|(with_reducible refine hK' _ _ ?_;clear hK' K')|exact zY|with_reducible refine And.intro ?_ ?_|(with_reducible intro hpath;try exact zP)|(refine hK' _ _ ?_;clear hK' K')|fail);try refine zS ?_))|(refine zE ?_;refine hK _ _ ?_;clear hK K)|(refine zN ?_;try refine zS ?_)|refine zA ?_|(refine zB ?_;intro K hK)|(refine zC ?_ ?_<;>(try refine zH ?_)<;>intro hcond<;>try exact zX)|(with_reducible refine FWp.seq ?_)|fail)
   refine AWp.weak (Weak.newBox 0 rfl (Nat.zero_le _)) ?_
   simp only [List.cons_append, List.nil_append]
   refine AWp.weak (Weak.cell 8 0 (.vec 10 0 0) rfl rfl (Nat.zero_le _) (fun ι σ w v hl h => ⟨_, List.getElem?_eq_getElem (by rw [hl]; simp), .inr ⟨rfl, rfl, h⟩⟩)) ?_
   simp only [List.set_cons_succ, List.set_cons_zero]
   repeat' (first|((first|(refine zT ?_;intro K' hK')|(refine zG ?_ ?_<;>(try refine zH ?_)<;>intro hguard<;>(try exact zX)<;>try intro K' hK'))<;>((try simp +contextual only [go_sem, hn, Int.toNat_natCast]);(repeat' first|(with_reducible refine hK' _ _ ?_;clear hK' K')|exact zY|with_reducible refine And.intro ?_ ?_|(with_reducible intro hpath;try exact zP)|(refine hK' _ _ ?_;clear hK' K')|fail);try refine zS ?_))|(refine zE ?_;refine hK _ _ ?_;clear hK K)|(refine zN ?_;try refine zS ?_)|refine zA ?_|(refine zB ?_;intro K hK)|(refine zC ?_ ?_<;>(try refine zH ?_)<;>intro hcond<;>try exact zX)|(with_reducible refine FWp.seq ?_)|fail)
   refine AWp.loopx (α:=(Nat × Nat × Nat × List Blk)) (fun q=>(⟨.c .any :: .c .any :: .c .any :: .c .any :: .c .any :: .c (.ptr 3 0) :: .c .any :: .c .any :: .c .any :: .c (.ptr 5 0) :: .c .any :: .c .any :: .c .any :: .c (.ptr 9 0) :: .c .any :: .c .any :: .c .any :: .c .any :: .c .any :: .c .any :: .c .any :: .c .any :: .c .any :: .c .any :: .c .any :: .c .any :: .c .any :: .c .any :: .c .any :: .c .any :: .c .any :: .c .any :: .c .any :: .c .any :: .c .any :: .c .any :: .c .any :: .c .any :: .c .any :: .c .any :: .c .any :: .c .any :: .c .any :: .c .any :: .c .any :: .c .any :: .c .any :: .c .any :: .c .any :: .c .any :: .c .any :: .c .any :: .c .any :: .c .any :: .c .any :: .c .any :: .c .any :: .c .any :: .c .any :: .c (.int .i64 (n : Int)) :: .c (.int .i64 (q.1 : Int)) :: .c .any :: .c .any :: .c .any :: .c .any :: .c .any :: .c .any :: .c .any :: .c .any :: .c .any :: .c .any :: .c .any :: .c .any :: .c .any :: [],VH (.box [.int .i64 (n : Int), .slice (eRows g.es) .none]) L (allB' L q.1) q.2.1 q.2.2.1 q.2.2.2⟩:St)) (fun q=>q.1 ≤ n ∧ VX (allB' L q.1) q.2.1 q.2.2.1 q.2.2.2) (fun q=>n - q.1) ((0, 0, 0, [.box []])) (Weak.keepM 74 [5, 9, 13, 59, 60]) ?_ (fun q hI=>?_)
   ·exact ⟨Nat.zero_le _, rfl, Nat.le_refl _, fun b hb m => by rw [List.mem_singleton.1 hb]; exact cellsIn_nil m⟩
   ·obtain ⟨i, j, cap, X⟩ := q
    obtain ⟨hi, hX⟩ := hI
    simp only at hi hX ⊢
    by_cases hlt : i < n
    ·have hltI : (i : Int) < (n : Int) := by omega
     obtain ⟨k1, k2⟩ := allB_ok hL i (by omega)
     have hsu := allB_succ L i
     generalize allB' L i = s at *
     have kl := k1.ls
     have sv := fC_get (F := s.seen) (i := i) (by omega)
     have hi0 : 0 ≤ (i : Int) := by omega
     have hi11 : i ≤ 11 := by omega
     by_cases h0 : s.seen.getD i 0 = 0
     ·rw [if_pos h0] at hsu
      rw [h0] at sv
      have hcall := visit_ok (.box [.int .i64 (n : Int), .slice (eRows g.es) .none]) (fun m _ => by intro c hc; simp only [List.mem_cons, List.not_mem_nil, or_false] at hc; rcases hc with rfl | rfl <;> exact True.intro) L hL hLl 12 i (-1) s 0 L.length j cap X (by omega) h0 (by have := k1.tm; omega) k1 k2 (by omega) (by omega) (by omega) (by omega) hX
      simp only [VH] at hcall ⊢
      repeat' (first|((with_reducible refine AWp.seq (AWp.of_reg (id:=21) (AReg.pre 2 (fun K hK=>?_))));simp only [List.take_succ_cons,List.take_zero])|((with_reducible refine AWp.of_reg (id:=21) (AReg.pre 2 (fun K hK=>?_)));simp only [List.take_succ_cons,List.take_zero])|((first|(refine zT ?_;intro K' hK')|(refine zG ?_ ?_<;>(try refine zH ?_)<;>intro hguard<;>(try exact zX)<;>try intro K' hK'))<;>((try simp +contextual only [go_sem, hltI, hi0, hi11, sv, fC_len, kl, Int.toNat_natCast, Nat.mul_one]);(repeat' first|(with_reducible refine hK' _ _ ?_;clear hK' K')|exact zY|with_reducible refine And.intro ?_ ?_|(with_reducible intro hpath;try exact zP)|(refine hK' _ _ ?_;clear hK' K')|fail);try refine zS ?_))|(refine zE ?_;refine hK _ _ ?_;clear hK K)|(refine zN ?_;try refine zS ?_)|refine zA ?_|(refine zB ?_;intro K hK)|(refine zC ?_ ?_<;>(try refine zH ?_)<;>intro hcond<;>try exact zX)|fail)
      refine AReg.stepN rfl rfl (step_callE rfl rfl hcall) ?_
      rintro r H' ⟨rfl, j2, cap2, X2, hX2, rfl⟩
      simp only [aput, aeval, List.set_cons_succ, List.set_cons_zero]
      refine AReg.rest (fun K hK => ?_)
      repeat' (first|((first|(refine zT ?_;intro K' hK')|(refine zG ?_ ?_<;>(try refine zH ?_)<;>intro hguard<;>(try exact zX)<;>try intro K' hK'))<;>((try simp +contextual only [go_sem]);(repeat' first|(with_reducible refine hK' _ _ ?_;clear hK' K')|exact zY|with_reducible refine And.intro ?_ ?_|(with_reducible intro hpath;try exact zP)|(refine hK' _ _ ?_;clear hK' K')|fail);try refine zS ?_))|(refine zE ?_;refine hK _ _ ?_;clear hK K)|(refine zN ?_;try refine zS ?_)|refine zA ?_|(refine zB ?_;intro K hK)|(refine zC ?_ ?_<;>(try refine zH ?_)<;>intro hcond<;>try exact zX)|fail)
      refine ⟨(i + 1, j2, cap2, X2),?_,?_,?_⟩
      ·simp only [hsu]; exact Weak.keepM 74 [5, 9, 13, 59, 60]
      ·exact ⟨hlt, by simp only [hsu]; exact hX2⟩
      ·simp only; omega
     ·rw [if_neg h0] at hsu
      have h0I : ¬ ((s.seen.getD i 0 : Nat) : Int) = 0 := by omega
      simp only [VH]
      refine zR (zc @hltI (zc @hi0 (zc @hi11 (zc @sv (zc @h0I (zc @fC_len (zc @kl trivial))))))) trivial trivial ?_
      refine ⟨(i + 1, j, cap, X),?_,?_,?_⟩
      ·simp only [hsu]; exact Weak.keepM 74 [5, 9, 13, 59, 60]
      ·exact ⟨hlt, by simp only [hsu]; exact hX⟩
      ·simp only; omega
    ·have hnl : ¬ (i : Int) < (n : Int) := by omega
     have ei : i = n := by omega
     subst ei
     simp only [VH]
     repeat' ((fail_if_success (with_reducible refine FWp.atSeq 23 ?_));first|((first|(refine zT ?_;intro K' hK')|(refine zG ?_ ?_<;>(try refine zH ?_)<;>intro hguard<;>(try exact zX)<;>try intro K' hK'))<;>((try simp +contextual only [go_sem, hnl]);(repeat' first|(with_reducible refine hK' _ _ ?_;clear hK' K')|exact zY|with_reducible refine And.intro ?_ ?_|(with_reducible intro hpath;try exact zP)|(refine hK' _ _ ?_;clear hK' K')|fail);try refine zS ?_))|(refine zE ?_;refine hK _ _ ?_;clear hK K)|(refine zN ?_;try refine zS ?_)|refine zA ?_|(refine zB ?_;intro K hK)|(refine zC ?_ ?_<;>(try refine zH ?_)<;>intro hcond<;>try exact zX)|(with_reducible refine FWp.seq ?_)|fail)
     refine FWp.weak (Weak.head2 (m := 5) (by omega) ((fun t f => [f, f, f, f, f, t, f, f, f, f, f, f, f, f, f, f, f, f, f, f, f, f, f, f, f, f, f, f, f, f, f, f, f, f, f, f, f, f, f, f, f, f, f, f, f, f, f, f, f, f, f, f, f, f, f, f, f, f, f, f, f, f, f, f, f, f, f, f, f, f, f, f, f, f]) true false) rfl rfl (by (repeat' (first | exact valsIn_nil _ | exact blksIn_nil _ | exact cellsIn_nil _ | refine And.intro ?_ ?_ | refine valsIn_cons ?_ ?_ | refine blksIn_cons ?_ ?_ | refine cellsIn_cons ?_ ?_ | exact True.intro | exact vx_in (by assumption) | exact chI_in (by assumption) | exact chJ_in | exact fC_in | exact vcaps_in (by omega) | (show _ < _; omega) | exact cellsIn_map (fun _ => True.intro) | (intro c hc; cases hc; done) | (intro c hc; simp only [List.mem_cons, List.not_mem_nil, or_false] at hc; subst hc; exact True.intro) | (intro c hc; simp only [List.mem_cons, List.not_mem_nil, or_false] at hc; rcases hc with rfl | rfl <;> exact True.intro))))) ?_
     simp only [mask, List.take_succ_cons, List.take_zero, List.set_cons_succ, List.set_cons_zero]
     have hout := fun B hB => outB_mem (B := B) hn12 hLn hB
     have holen := outB_len hn12 hLn
     unfold blocksB
     generalize (allB' L i).out = out at *
     by_cases h0 : out = []
     ·subst h0
      refine FWp.of_awp ?_
      repeat' (first|((first|(refine zT ?_;intro K' hK')|(refine zG ?_ ?_<;>(try refine zH ?_)<;>intro hguard<;>(try exact zX)<;>try intro K' hK'))<;>((try simp +contextual only [go_sem, oI, List.map_nil, llRows]);(repeat' first|(with_reducible refine hK' _ _ ?_;clear hK' K')|((with_reducible first|refine ⟨_,_,SortS_none,?_⟩|refine ⟨_,SortS_none,?_⟩);try simp +contextual only [go_sem, oI, List.map_nil, llRows])|exact zY|with_reducible refine And.intro ?_ ?_|(with_reducible intro hpath;try exact zP)|(refine hK' _ _ ?_;clear hK' K')|fail);try refine zS ?_))|(refine zE ?_;refine hK _ _ ?_;clear hK K)|(refine zN ?_;try refine zS ?_)|refine zA ?_|(refine zB ?_;intro K hK)|(refine zC ?_ ?_<;>(try refine zH ?_)<;>intro hcond<;>try exact zX)|fail)
      simp [Rets, aret, Blk.cells, ty, Try.results45, ares, toT1, toT, borrow, borrow0, capCell, toTree0, isortL, oI, llRows]
     ·have hpos : 0 < out.length := List.length_pos_iff.2 h0
      refine FWp.thawL 3 0 rfl rfl rfl (fun r hr => llRows_k' hr) (by decide) (fun r hr => ll_slice hr) (by simpa [llRows, oI] using h0) (leaf5 _ _ _ _ _ _) (by simp [leafV, leafC, safeC]) (fun id h => absurd h (Nat.not_lt_zero _)) (fun cap hcap => ?_)
      rw [ll_flat, llRows_len, oI_len]
      rw [llRows_len, oI_len] at hcap
      simp only [List.length_cons, List.length_nil, List.set_cons_succ, List.set_cons_zero, List.cons_append, List.nil_append, Nat.reduceAdd]
      refine FWp.of_awp ?_
      have hS := fun H hid => SortS_ok out hpos (by omega) (fun B hB => by have := sorted_len (hout B hB).2.2 (hout B hB).2.1; omega) (H := H) (id := 5) (cap := cap) hid
      repeat' (first|((first|(refine zT ?_;intro K' hK')|(refine zG ?_ ?_<;>(try refine zH ?_)<;>intro hguard<;>(try exact zX)<;>try intro K' hK'))<;>((try simp +contextual only [go_sem]);(repeat' first|(with_reducible refine hK' _ _ ?_;clear hK' K')|((with_reducible first|refine ⟨_,_,hS _ rfl,?_⟩|refine ⟨_,hS _ rfl,?_⟩);try simp +contextual only [go_sem])|exact zY|with_reducible refine And.intro ?_ ?_|(with_reducible intro hpath;try exact zP)|(refine hK' _ _ ?_;clear hK' K')|fail);try refine zS ?_))|(refine zE ?_;refine hK _ _ ?_;clear hK K)|(refine zN ?_;try refine zS ?_)|refine zA ?_|(refine zB ?_;intro K hK)|(refine zC ?_ ?_<;>(try refine zH ?_)<;>intro hcond<;>try exact zX)|fail)
      have hil : (isortL out).length = out.length := (isortL_perm out).length_eq
      have h1 := ll_back (isortL out)
      have h2 : ((isortL out).map fun x => ACell.slice (iRows (zI x)) .none).take (isortL out).length = (isortL out).map fun x => ACell.slice (iRows (zI x)) .none := List.take_of_length_le (by simp)
      rw [← hil] at hcap ⊢
      simp [Rets, aret, Try.results45, ares, toT1, borrow, borrow0, Blk.cells, hcap, h2, h1.1, h1.2]
open Classical in
theorem ncls_onto {N n : Nat} (g : Nat → Nat) (hr : ∀ x, x < N → g x < n) (hs : ∀ v, v < n → ∃ x, x < N ∧ g x = v) : ncls N (fun x y => g x = g y) = n := by
 unfold ncls
 generalize hl : List.filter _ (List.range N) = l
 have hmem : ∀ h, h ∈ l ↔ h < N ∧ ∀ y, y < N → g h = g y → h ≤ y := fun h => by rw [← hl]; simp
 have hnd : l.Nodup := by rw [← hl]; exact List.nodup_range.filter _
 have hinj : ∀ a b, a ∈ l → b ∈ l → g a = g b → a = b := fun a b ha hb e => by
  have h1 := (hmem a).1 ha
  have h2 := (hmem b).1 hb
  have := h1.2 b h2.1 e
  have := h2.2 a h1.1 e.symm
  omega
 have hnd2 : (l.map g).Nodup := by
  rw [List.Nodup, List.pairwise_map]
  exact List.Pairwise.imp_of_mem (fun {a b} ha hb hne e => hne (hinj a b ha hb e)) hnd
 have h1 := List.Nodup.length_le_of_subset hnd2 (l₂ := List.range n) (fun v hv => by
  obtain ⟨x, hx, rfl⟩ := List.mem_map.1 hv
  exact List.mem_range.2 (hr x ((hmem x).1 hx).1))
 have h2 := List.Nodup.length_le_of_subset (List.nodup_range (n := n)) (l₂ := l.map g) (fun v hv => by
  obtain ⟨x, hx, e⟩ := hs v (List.mem_range.1 hv)
  obtain ⟨m, m1, ⟨m2, m3⟩, m4⟩ := least_of (P := fun y => y < N ∧ g y = v) ⟨hx, e⟩
  exact List.mem_map.2 ⟨m, (hmem m).2 ⟨m2, fun y hy he => m4 y ⟨hy, by rw [← he, m3]⟩⟩, m3⟩)
 simp at h1 h2
 omega
theorem conn_snoc {l : List (Int × Int)} {a b : Nat} {x y : Nat} : Conn (l ++ [((a : Int), (b : Int))]) x y ↔ Conn l x y ∨ (Conn l a x ∨ Conn l b x) ∧ (Conn l a y ∨ Conn l b y) := by
 constructor
 ·intro h
  induction h with
  | refl => exact .inl .refl
  | @step u w _ hs ih =>
   have hor : (((u : Int), (w : Int)) ∈ l ∨ ((w : Int), (u : Int)) ∈ l) ∨ (u = a ∧ w = b) ∨ (u = b ∧ w = a) := by
    rcases hs with h | h <;> rcases List.mem_append.1 h with h | h
    ·exact .inl (.inl h)
    ·simp at h; exact .inr (.inl ⟨by omega, by omega⟩)
    ·exact .inl (.inr h)
    ·simp at h; exact .inr (.inr ⟨by omega, by omega⟩)
   rcases hor with h | ⟨rfl, rfl⟩ | ⟨rfl, rfl⟩
   ·rcases ih with ih | ⟨i1, i2⟩
    ·exact .inl (ih.step h)
    ·exact .inr ⟨i1, i2.imp (fun q => q.step h) (fun q => q.step h)⟩
   ·rcases ih with ih | ⟨i1, i2⟩
    ·exact .inr ⟨.inl ih.symm, .inr .refl⟩
    ·exact .inr ⟨i1, .inr .refl⟩
   ·rcases ih with ih | ⟨i1, i2⟩
    ·exact .inr ⟨.inr ih.symm, .inl .refl⟩
    ·exact .inr ⟨i1, .inl .refl⟩
 ·have hm : ∀ {u w}, Conn l u w → Conn (l ++ [((a : Int), (b : Int))]) u w := fun h => h.mono fun p hp => List.mem_append_left _ hp
  have hab : Conn (l ++ [((a : Int), (b : Int))]) a b := .one (.inl (by simp))
  rintro (h | ⟨h1, h2⟩)
  ·exact hm h
  ·rcases h1 with h1 | h1 <;> rcases h2 with h2 | h2
   ·exact (hm h1).symm.trans (hm h2)
   ·exact (hm h1).symm.trans (hab.trans (hm h2))
   ·exact (hm h1).symm.trans (hab.symm.trans (hm h2))
   ·exact (hm h1).symm.trans (hm h2)
theorem conn_eqv (N : Nat) (l : List (Int × Int)) : Eqv N (Conn l) := ⟨fun _ _ => .refl, fun _ _ _ _ h => h.symm, fun _ _ _ _ _ _ h1 h2 => h1.trans h2⟩
open Classical in
theorem parts_ncls {g : G} {n : Nat} (hc : checkG g = 0) (hn : g.n = n) : partsN g.es n n = ncls n (Conn (endsL g.es)) := by
 have h12 := (checkG_zero.1 hc).1
 have h1 := parts_roots hc hn n (Nat.le_refl _)
 rw [rootsN_filter] at h1
 have h2 : partsN g.es n n = ((List.range n).filter fun v => decide ((genS (endsL g.es)).1[v]? = some v)).length := by omega
 rw [h2]
 unfold ncls
 congr 1
 refine List.filter_congr fun v hv => ?_
 have hv' := List.mem_range.1 hv
 have hin : In12 (endsL g.es) := fun p hp => by have := ends_in hc hn p hp; omega
 rw [decide_eq_decide, isRoot_iff hin (by omega)]
 constructor
 ·intro H y hy hcn
  exact Nat.le_of_not_lt fun hlt => H ⟨y, hlt, hcn.symm⟩
 ·rintro H ⟨u, hu, hcn⟩
  have := H u (by omega) hcn.symm
  omega
structure Emb (E n : Nat) (L : List (Int × Int)) (s : Nat → Nat) (g : Nat → Nat) : Prop where
 len : L.length = E
 perm : PermN (2 * E) s
 lt : ∀ x, x < 2 * E → g x < n
 ends : ∀ k, k < E → L[k]? = some (((g (2 * k) : Nat) : Int), ((g (2 * k + 1) : Nat) : Int))
 keep : ∀ x, x < 2 * E → g (s x) = g x
section
variable {E n : Nat} {L : List (Int × Int)} {s g : Nat → Nat}
end
end Go.Proofs.Ytgklecfiflhjmaa
namespace Go.Proofs.Ytgklecfiflhjmaa
open Go.Sp
section
variable {r : R}
end
set_option maxHeartbeats 1000000
def nL (l : List (Int × Int)) : List (Nat × Nat) := l.map fun p => (p.1.toNat, p.2.toNat)
theorem nL_len (l : List (Int × Int)) : (nL l).length = l.length := by simp [nL]
theorem ends_okP {g : G} (hc : checkG g = 0) {p : Int × Int} (hp : p ∈ endsL g.es) : (0 ≤ p.1 ∧ p.1 < g.n) ∧ (0 ≤ p.2 ∧ p.2 < g.n) ∧ p.1 ≤ p.2 := by
 obtain ⟨e, he, rfl⟩ := endsL_mem hp
 have := (checkG_zero.1 hc).2.1 e he
 unfold okE at this
 simp only; omega
structure NG (g : G) (n : Nat) (L : List (Nat × Nat)) : Prop where
 hn : g.n = n
 h1 : 1 ≤ n
 h12 : n ≤ 12
 ends : endsL g.es = LI L
 lt : ∀ p, p ∈ L → p.1 < n ∧ p.2 < n
 len : L.length ≤ 2000
theorem ng_of {g : G} (hc : checkG g = 0) (hl : g.es.length ≤ 40) : NG g g.n.toNat (nL (endsL g.es)) := by
 have h := checkG_zero.1 hc
 have h12 := h.1
 have hin := fun (p : Int × Int) (hp : p ∈ endsL g.es) => ends_okP hc hp
 refine ⟨by omega, by omega, by omega, ?_, fun p hp => ?_, ?_⟩
 ·unfold LI nL
  rw [List.map_map]
  symm
  refine (List.map_congr_left (g := id) fun p hp => ?_).trans (List.map_id _)
  have := hin p hp
  obtain ⟨a, b⟩ := p
  simp only [Function.comp_apply, id] at this ⊢
  ext <;> simp <;> omega
 ·obtain ⟨q, hq, rfl⟩ := List.mem_map.1 hp
  have := hin q hq
  simp only; omega
 ·rw [nL_len]
  exact ends_len hl hc
theorem blocksB_mem {L : List (Nat × Nat)} {n : Nat} (hn : n ≤ 12) (hL : ∀ p, p ∈ L → p.1 < n ∧ p.2 < n) {B : List Nat} (hB : B ∈ blocksB L n) : B ≠ [] ∧ (∀ e, e ∈ B → e < L.length) ∧ B.Pairwise (· < ·) := by
 unfold blocksB at hB
 rw [(isortL_perm _).mem_iff] at hB
 exact outB_mem hn hL hB
theorem allB_len {L : List (Nat × Nat)} {n : Nat} (hn : n ≤ 12) (hL : ∀ p, p ∈ L → p.1 < n ∧ p.2 < n) : (blocksB L n).length ≤ 2 * L.length := by
 unfold blocksB
 rw [(isortL_perm _).length_eq]
 exact outB_len hn hL
def isBr (L : List (Nat × Nat)) (B : List Nat) : Bool := decide (B.length = 1) && decide ((edL L (B.getD 0 0)).1 ≠ (edL L (B.getD 0 0)).2)
def brI (L : List (Nat × Nat)) (bs : List (List Nat)) : List Nat := (bs.filter (isBr L)).map fun B => B.getD 0 0
theorem brI_snoc (L : List (Nat × Nat)) (bs : List (List Nat)) (B : List Nat) : brI L (bs ++ [B]) = if isBr L B = true then brI L bs ++ [B.getD 0 0] else brI L bs := by
 unfold brI
 rw [List.filter_append]
 by_cases h : isBr L B = true <;> simp [h]
theorem brI_len (L : List (Nat × Nat)) (bs : List (List Nat)) : (brI L bs).length ≤ bs.length := by
 unfold brI; rw [List.length_map]; exact List.length_filter_le _ _
theorem oI_get {l : List (List Nat)} {i : Nat} {r : List Nat} (h : l[i]? = some r) : (oI l)[i]? = some (zI r) := by simp [oI, h]
theorem cblocks_ok {g : G} {n : Nat} {L : List (Nat × Nat)} (hg : g.es.length ≤ 40) (hc : checkG g = 0) (h : NG g n L) : ACall Try.prog 45 [tG g] (.t (.slice (llRows (oI (blocksB L n))))) :=
 blocks_ok g n L (by omega) hc h.hn h.h12 h.ends h.lt h.len
theorem Blocks_ok (g : G) (hl : g.es.length ≤ 40) : ACall Try.prog 18 [tG g] (.tup [tlists (if checkG g ≠ 0 then [] else oI (blocksB (nL (endsL g.es)) g.n.toNat)), tint (checkG g)]) := by
 have hC := Check_ok g (by omega)
 by_cases hc : checkG g = 0
 ·have hB := cblocks_ok hl hc (ng_of hc hl)
  rw [if_neg (by omega), hc]
  rw [hc] at hC
  generalize blocksB (nL (endsL g.es)) g.n.toNat = bs at *
  obtain ⟨n, es⟩ := g
  refine ACall.of_body Try.func18 rfl (by kernel_rfl) ?_
  simp only [entry, Try.ntmps18, tG]
  refine zU ?_
  refine zR trivial (zc hC (zc hB trivial)) trivial ?_
  simp [Rets, aret, Blk.cells, ty, Try.results18, ares, toT1, toT, borrow, borrow0, capCell, toTree0, tint, tlists]
 ·rw [if_pos hc]
  generalize checkG g = E at *
  obtain ⟨n, es⟩ := g
  refine ACall.of_body Try.func18 rfl (by kernel_rfl) ?_
  simp only [entry, Try.ntmps18, tG]
  refine zU ?_
  refine zR (zc @hc trivial) (zc hC trivial) trivial ?_
  simp [Rets, aret, Blk.cells, ty, Try.results18, ares, toT1, toT, borrow, borrow0, capCell, toTree0, tint, tlists, llRows]
theorem Bridges_ok (g : G) (hl : g.es.length ≤ 40) : ACall Try.prog 12 [tG g] (.tup [tints (if checkG g ≠ 0 then [] else zI (brI (nL (endsL g.es)) (blocksB (nL (endsL g.es)) g.n.toNat))), tint (checkG g)]) := by
 have hC := Check_ok g (by omega)
 by_cases hc : checkG g = 0
 ·have hN := ng_of hc hl
  have hB := cblocks_ok hl hc hN
  have hE := cends_ok g (by omega) hc
  have hbl := allB_len hN.h12 hN.lt
  have hbm := fun B hB => blocksB_mem hN.h12 hN.lt (B := B) hB
  have hLl := hN.len
  rw [hN.ends] at hE
  rw [if_neg (by omega), hc]
  rw [hc] at hC
  generalize nL (endsL g.es) = L at *
  generalize blocksB L g.n.toNat = bs at *
  clear hN
  obtain ⟨n, es⟩ := g
  refine ACall.of_body Try.func12 rfl (by kernel_rfl) ?_
  simp only [entry, Try.ntmps12, tG]
  refine zU ?_
  refine zR (zc @llRows_len (zc @oI_len trivial)) (zc hC (zc hE (zc hB trivial))) trivial ?_
  refine AWp.weak (Weak.opens ((fun t f => [f, f, f, f, f, f, t, f, f, f, f, f, f, f, f, f, f, f, f, f, f, f, f, f, f, f, f, f, f, f, f, f, f, f, f, f, f, f, f, f, f, f, f, f, f, f, f, f]) true false) 1 (by first | omega | simp)) ?_
  simp only [openS, openV, List.length_cons, List.length_nil, List.length_append, Nat.reduceAdd, List.cons_append, List.nil_append]
  refine AWp.loopS (α:=Nat) 48 (fun i=>[(5,.c (.slice (pRows (LI L)) .none)),(6,.c (.slice (iRows (zI (brI L (bs.take i)))) (.chain 1))),(18,.c (.slice (llRows (oI bs)) .none)),(19,.c (.int .i64 (bs.length : Int))),(20,.c (.int .i64 (i : Int)))]) (fun i=>[.box [.int .i64 n, .slice (eRows es) .none], .chain (brI L (bs.take i)).length 1]) (fun i=>i ≤ bs.length) (fun i=>bs.length - i) (0) (hk:=Weak.headL 2 48 [5, 6, 18, 19, 20] zW) (h0:=?_) (round:=fun i hI=>?_)
  ·exact Nat.zero_le _
  ·have hi : i ≤ bs.length := hI
   clear hI
   by_cases hlt : i < bs.length
   ·have hltI : (i : Int) < (bs.length : Int) := by omega
    have e0 := List.getElem?_eq_getElem hlt
    have e1 := llRows_get (oI_get e0)
    obtain ⟨m1, m2, _⟩ := hbm _ (List.getElem_mem hlt)
    have hsn : bs.take (i + 1) = bs.take i ++ [bs[i]] := List.take_succ_eq_append_getElem hlt
    have hbr := brI_snoc L (bs.take i) bs[i]
    have hbl2 := brI_len L (bs.take i)
    rw [← hsn] at hbr
    have htl : (bs.take i).length ≤ i := by rw [List.length_take]; omega
    generalize bs[i] = B at *
    obtain ⟨x, hx0⟩ : ∃ x, B[0]? = some x := ⟨_, List.getElem?_eq_getElem (List.length_pos_iff.2 m1)⟩
    have hgd : B.getD 0 0 = x := by rw [List.getD_eq_getElem?_getD, hx0]; rfl
    have hx := m2 x (List.mem_of_getElem? hx0)
    have e2 := zI_get hx0
    have e3 := LI_get (List.getElem?_eq_getElem hx)
    have hxI : (x : Int) < (L.length : Int) := by omega
    have hpos : (0 : Int) < (B.length : Int) := by have := List.length_pos_iff.2 m1; omega
    have hed : edL L x = L[x] := by unfold edL; rw [List.getD_eq_getElem?_getD, List.getElem?_eq_getElem hx]; rfl
    unfold isBr at hbr
    simp only [hgd, hed] at hbr
    generalize L[x] = p at *
    by_cases h1 : B.length = 1
    ·have h1I : (B.length : Int) = 1 := by omega
     by_cases h2 : p.1 = p.2
     ·rw [if_neg (by simp [h2])] at hbr
      have h2I : (p.1 : Int) = (p.2 : Int) := by omega
      repeat' (first|((first|(refine zT ?_;intro K' hK')|(refine zG ?_ ?_<;>(try refine zH ?_)<;>intro hguard<;>(try exact zX)<;>try intro K' hK'))<;>((try simp +contextual only [go_sem, hltI, e1, e2, e3, hxI, hpos, h1I, h2I, iRows_len, zI_len, pRows_len, LI_len, Int.toNat_natCast, Nat.mul_one]);(repeat' first|(with_reducible refine hK' _ _ ?_;clear hK' K')|exact zY|with_reducible refine And.intro ?_ ?_|(with_reducible intro hpath;try exact zP)|(refine hK' _ _ ?_;clear hK' K')|fail);try refine zS ?_))|(refine zE ?_;refine hK _ _ ?_;clear hK K)|(refine zN ?_;try refine zS ?_)|refine zA ?_|(refine zB ?_;intro K hK)|(refine zC ?_ ?_<;>(try refine zH ?_)<;>intro hcond<;>try exact zX)|fail)
      rw [← hbr]
      refine ⟨i + 1,Weak.headN 2 48 [5, 6, 18, 19, 20] zW,?_,?_⟩
      ·exact hlt
      ·omega
     ·rw [if_pos (by simp [h1, h2])] at hbr
      have h2I : ¬ (p.1 : Int) = (p.2 : Int) := by omega
      have hzs := zI_snoc (brI L (bs.take i)) x
      rw [← hbr] at hzs
      have hln : (brI L (bs.take (i + 1))).length = (brI L (bs.take i)).length + 1 := by rw [hbr]; simp
      generalize brI L (bs.take i) = d at *
      repeat' (first|((first|(refine zT ?_;intro K' hK')|(refine zG ?_ ?_<;>(try refine zH ?_)<;>intro hguard<;>(try exact zX)<;>try intro K' hK'))<;>((try simp +contextual only [go_sem, hltI, e1, e2, e3, hxI, hpos, h1I, h2I, iRows_len, iRows_snoc, zI_len, pRows_len, LI_len, Int.toNat_natCast, Nat.mul_one, chunks, List.range, List.range.loop]);(repeat' first|(with_reducible refine hK' _ _ ?_;clear hK' K')|(with_reducible exact iRows_k' (by assumption))|exact zY|with_reducible refine And.intro ?_ ?_|(with_reducible intro hpath;try exact zP)|(refine hK' _ _ ?_;clear hK' K')|fail);try refine zS ?_))|(refine zE ?_;refine hK _ _ ?_;clear hK K)|(refine zN ?_;try refine zS ?_)|refine zA ?_|(refine zB ?_;intro K hK)|(refine zC ?_ ?_<;>(try refine zH ?_)<;>intro hcond<;>try exact zX)|fail)
      rw [hzs]
      refine ⟨i + 1,Weak.headF 2 48 [5, 6, 18, 19, 20] (zc @hln trivial) zW,?_,?_⟩
      ·exact hlt
      ·omega
    ·have h1I : ¬ (B.length : Int) = 1 := by omega
     rw [if_neg (by simp [h1])] at hbr
     repeat' (first|((first|(refine zT ?_;intro K' hK')|(refine zG ?_ ?_<;>(try refine zH ?_)<;>intro hguard<;>(try exact zX)<;>try intro K' hK'))<;>((try simp +contextual only [go_sem, hltI, e1, e2, e3, hxI, hpos, h1I, iRows_len, zI_len, pRows_len, LI_len, Int.toNat_natCast, Nat.mul_one]);(repeat' first|(with_reducible refine hK' _ _ ?_;clear hK' K')|exact zY|with_reducible refine And.intro ?_ ?_|(with_reducible intro hpath;try exact zP)|(refine hK' _ _ ?_;clear hK' K')|fail);try refine zS ?_))|(refine zE ?_;refine hK _ _ ?_;clear hK K)|(refine zN ?_;try refine zS ?_)|refine zA ?_|(refine zB ?_;intro K hK)|(refine zC ?_ ?_<;>(try refine zH ?_)<;>intro hcond<;>try exact zX)|fail)
     rw [← hbr]
     refine ⟨i + 1,Weak.headN 2 48 [5, 6, 18, 19, 20] zW,?_,?_⟩
     ·exact hlt
     ·omega
   ·have hnl : ¬ (i : Int) < (bs.length : Int) := by omega
    have ei : i = bs.length := by omega
    subst ei
    rw [List.take_length]
    refine zR (zc @hnl trivial) trivial trivial ?_
    simp [Rets, aret, Blk.cells, ty, Try.results12, ares, toT1, toT, borrow, borrow0, capCell, toTree0, tint, tints]
 ·rw [if_pos hc]
  generalize checkG g = E at *
  obtain ⟨n, es⟩ := g
  refine ACall.of_body Try.func12 rfl (by kernel_rfl) ?_
  simp only [entry, Try.ntmps12, tG]
  refine zU ?_
  refine zR (zc @hc trivial) (zc hC trivial) trivial ?_
  simp [Rets, aret, Blk.cells, ty, Try.results12, ares, toT1, toT, borrow, borrow0, capCell, toTree0, tint, tints, iRows]
end Go.Proofs.Ytgklecfiflhjmaa
