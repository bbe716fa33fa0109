/- A part of the proof. -/
import Derived.Test.YtgklecfiflhjmaaPart20
import Derived.Test.YtgklecfiflhjmaaPart18
import Derived.Test.YtgklecfiflhjmaaPart17
import Derived.Test.YtgklecfiflhjmaaLayerC
import Derived.Test.YtgklecfiflhjmaaPart08
import Derived.Test.YtgklecfiflhjmaaPart19
import Derived.Test.YtgklecfiflhjmaaPart05
import Derived.Test.YtgklecfiflhjmaaPart06
import Derived.Test.YtgklecfiflhjmaaPart12
set_option linter.all false
set_option maxHeartbeats 4000000
set_option maxRecDepth 100000
namespace Go.Proofs.Ytgklecfiflhjmaa
open Go.Sp
theorem fC_trees : ∀ F : List Nat, (fC F).mapM toTree0 = some (fT F)
 | [] => rfl
 | x :: F => by
  have ih := fC_trees F
  simp only [fC, fT, List.map_cons, List.mapM_cons] at ih ⊢
  rw [ih]; rfl
theorem pkL_in12 {g : G} (hc : checkG g = 0) {l : List Int} (hl : ∀ x, x ∈ l → 0 ≤ x ∧ x < (endsL g.es).length) : In12 (pkL (endsL g.es) l) := fun p hp => by
 obtain ⟨x, hx, rfl⟩ := List.mem_map.1 hp
 have h := hl x hx
 have hm : (endsL g.es).getD x.toNat (0, 0) ∈ endsL g.es := by
  rw [List.getD_eq_getElem?_getD, List.getElem?_eq_getElem (by omega)]; exact List.getElem_mem _
 have := ends_okP hc hm
 have := (checkG_zero.1 hc).1
 omega
theorem pkL_snoc (L : List (Int × Int)) (l : List Int) (x : Int) : pkL L (l ++ [x]) = pkL L l ++ [L.getD x.toNat (0, 0)] := by simp [pkL]
theorem cParts_ok (g : G) (l : List Int) (hg : g.es.length ≤ 40) (hl : l.length < 2 ^ 40) : ACall Try.prog 32 [tG g, tints l] (.tup [tlists (if edgE g l ≠ 0 then [] else partsV (genS (pkL (endsL g.es) l)).1 g.n.toNat), tint (edgE g l)]) := by
 have hEd := cEdges_ok g l hg hl
 by_cases h0 : edgE g l = 0
 case neg =>
  rw [if_pos h0]
  generalize edgE g l = E at *
  obtain ⟨n, es⟩ := g
  refine ACall.of_body Try.func32 rfl (by kernel_rfl) ?_
  simp only [entry, Try.ntmps32, tG, tints]
  refine zU ?_
  refine zR (zc @h0 trivial) (zc hEd trivial) trivial ?_
  simp [Rets, aret, Blk.cells, ty, Try.results32, ares, toT1, toT, borrow, borrow0, capCell, toTree0, tint, tlists, llRows]
 rw [if_neg (by omega), h0]
 rw [h0] at hEd
 have hc : checkG g = 0 := by unfold edgE at h0; split at h0 <;> omega
 have hr : ∀ x, x ∈ l → 0 ≤ x ∧ x < (endsL g.es).length := by
  unfold edgE at h0; rw [if_neg (by omega)] at h0; exact subE_range h0
 have h12 := pkL_in12 hc hr
 have hE := cends_ok g (by omega) hc
 have hn := (checkG_zero.1 hc).1
 have hlen := ends_len hg hc
 clear h0
 generalize endsL g.es = L at *
 obtain ⟨n, es⟩ := g
 simp only at hn hg ⊢
 obtain ⟨nn, rfl⟩ := Int.eq_ofNat_of_zero_le (show 0 ≤ n by omega)
 simp only [Int.toNat_natCast] at *
 have hgr := cgrown_ok
 have hr12 : (List.range 12).length = 12 := List.length_range
 have h0' : (genS (pkL L (l.take 0))).1 = List.range 12 := rfl
 refine ACall.of_body Try.func32 rfl (by kernel_rfl) ?_
 simp only [entry, Try.ntmps32, tG, tints]
 refine zU ?_
 generalize hR : List.range 12 = R at *
 have hof : (fT R).map ofTree = fC R := fT_of R
 have hst := fC_store zero12 R (by rw [hr12]; rfl)
 have hz : fC zero12 = [.int .i64 0, .int .i64 0, .int .i64 0, .int .i64 0, .int .i64 0, .int .i64 0, .int .i64 0, .int .i64 0, .int .i64 0, .int .i64 0, .int .i64 0, .int .i64 0] := rfl
 rw [hz] at hst
 unfold tF at hgr
 repeat' ((fail_if_success (with_reducible refine AWp.atSeq 4 ?_));(fail_if_success (with_reducible refine AWp.atLast 4 ?_));first|((first|(refine zT ?_;intro K' hK')|(refine zG ?_ ?_<;>(try refine zH ?_)<;>intro hguard<;>(try exact zX)<;>try intro K' hK'))<;>((try simp +contextual only [go_sem]);(repeat' first|(with_reducible refine hK' _ _ ?_;clear hK' K')|(with_reducible refine zK hEd ?_;try simp +contextual only [go_sem])|exact zY|with_reducible refine And.intro ?_ ?_|(with_reducible intro hpath;try exact zP)|(refine hK' _ _ ?_;clear hK' K')|fail);try refine zS ?_))|(refine zE ?_;refine hK _ _ ?_;clear hK K)|(refine zN ?_;try refine zS ?_)|refine zA ?_|(refine zB ?_;intro K hK)|(refine zC ?_ ?_<;>(try refine zH ?_)<;>intro hcond<;>try exact zX)|fail)
 refine AWp.seq (AWp.of_adr (by kernel_rfl) ?_)
 have hgr' : ∀ H, ACallH Try.prog 67 H [] H (.agg (fC R)) := fun H => by rw [← hof]; exact ACall.h hgr rfl
 have hE' : ∀ H, ACallH Try.prog 44 H [.agg [.int .i64 (nn : Int), .slice (eRows es) .none]] H (.c (.slice (pRows L) .none)) := fun H => ACall.h hE rfl
 refine ADr.segS' 6 [3, 4] [(17, .agg (fC R)), (18, .agg [.int .i64 (nn : Int), .slice (eRows es) .none]), (19, .c (.slice (pRows L) .none)), (8, .c (.slice (pRows L) .none))] (by kernel_rfl) (by decide) (by decide) (by kernel_rfl) ?_ ?_
 ·
  simp only [List.drop_zero, List.drop_succ_cons, Nat.reduceSub, List.take_succ_cons, List.take_zero]
  (repeat' first | with_reducible exact quietS_nil | (with_reducible refine quietS_loud (by decide) ?_) | (with_reducible refine quietS_one (by kernel_rfl) (by with_unfolding_all rfl) ?_ ?_))
  all_goals (try simp only [go_sem, List.getD_cons_succ, List.getD_cons_zero, List.getElem?_cons_succ, List.getElem?_cons_zero, Option.getD_some, and_self, true_and])
  all_goals first | exact ⟨_, _, hgr' _, rfl, rfl⟩ | exact ⟨_, _, hE' _, rfl, rfl⟩
 refine SegRun.vc rfl rfl (fun K hK => ?_)
 simp only [go_sem]
 refine hK _ _ ⟨?_, ?_⟩ <;> clear hK K
 ·
  simp only [List.drop_zero, List.drop_succ_cons, Nat.reduceSub, List.take_succ_cons, List.take_zero]
  (repeat' first | with_reducible exact quietS_nil | (with_reducible refine quietS_loud (by decide) ?_) | (with_reducible refine quietS_one (by kernel_rfl) (by with_unfolding_all rfl) ?_ ?_))
  all_goals (try simp only [go_sem, List.getD_cons_succ, List.getD_cons_zero, List.getElem?_cons_succ, List.getElem?_cons_zero, Option.getD_some, and_self, true_and])
  all_goals first | exact ⟨_, _, hgr' _, rfl, rfl⟩ | exact ⟨_, _, hE' _, rfl, rfl⟩
 simp only [setVals, aput, aeval, List.getD_cons_succ, List.getD_cons_zero, List.set_cons_succ, List.set_cons_zero]
 refine SegRun.vc rfl rfl (fun K hK => ?_)
 simp only [go_sem, fC_len, fC_free, hof, hst, hr12]
 refine hK _ _ ⟨?_, ?_⟩ <;> clear hK K
 ·
  simp only [List.drop_zero, List.drop_succ_cons, Nat.reduceSub, List.take_succ_cons, List.take_zero]
  (repeat' first | with_reducible exact quietS_nil | (with_reducible refine quietS_loud (by decide) ?_) | (with_reducible refine quietS_one (by kernel_rfl) (by with_unfolding_all rfl) ?_ ?_))
  all_goals (try simp only [go_sem, List.getD_cons_succ, List.getD_cons_zero, List.getElem?_cons_succ, List.getElem?_cons_zero, Option.getD_some, and_self, true_and])
  all_goals first | exact ⟨_, _, hgr' _, rfl, rfl⟩ | exact ⟨_, _, hE' _, rfl, rfl⟩
 simp only [setVals, aput, aeval, List.getD_cons_succ, List.getD_cons_zero, List.set_cons_succ, List.set_cons_zero]
 refine SegRun.nil' (ADr.done (by decide) (AThen.n ?_))
 refine zR (zc @iRows_len trivial) trivial trivial ?_
 rw [← h0']
 refine AWp.loopS (α:=Nat) 41 (fun i=>[(2,.c (.ptr 0 0)),(7,.c (.ptr 1 0)),(8,.c (.slice (pRows L) .none)),(20,.c (.slice (iRows l) .none)),(21,.c (.int .i64 (l.length : Int))),(22,.c (.int .i64 (i : Int)))]) (fun i=>[.box [.int .i64 (nn : Int), .slice (eRows es) .none], .box (fC (genS (pkL L (l.take i))).1)]) (fun i=>i ≤ l.length) (fun i=>l.length - i) (0) (hk:=Weak.headL 2 41 [2, 7, 8, 20, 21, 22] (zV @fC_in)) (h0:=?_) (round:=fun i hI=>?_)
 ·exact Nat.zero_le _
 ·have hi : i ≤ l.length := hI
  clear hI
  have hok := genS_ok (l := pkL L (l.take i)) fun q hq => h12 q (by
   obtain ⟨x, hx, rfl⟩ := List.mem_map.1 hq
   exact List.mem_map.2 ⟨x, List.mem_of_mem_take hx, rfl⟩)
  by_cases hlt : i < l.length
  ·have hltI : (i : Int) < l.length := by omega
   have e0 := List.getElem?_eq_getElem hlt
   have e1 := iRows_get e0
   have hxr := hr _ (List.getElem_mem hlt)
   have hsn : l.take (i + 1) = l.take i ++ [l[i]] := List.take_succ_eq_append_getElem hlt
   have hps := pkL_snoc L (l.take i) l[i]
   rw [← hsn] at hps
   have hpm := h12 (L.getD (l[i]).toNat (0, 0)) (List.mem_map.2 ⟨_, List.getElem_mem hlt, rfl⟩)
   generalize l[i] = x at *
   obtain ⟨y, rfl⟩ := Int.eq_ofNat_of_zero_le hxr.1
   simp only [Int.toNat_natCast] at hps hpm
   have hy : y < L.length := by omega
   have e2 := pRows_get (List.getElem?_eq_getElem hy)
   have hgd : L.getD y (0, 0) = L[y] := by rw [List.getD_eq_getElem?_getD, List.getElem?_eq_getElem hy]; rfl
   rw [hgd] at hps hpm
   generalize L[y] = p at *
   obtain ⟨pa, pb⟩ := p
   have hnx := genS_snoc (pkL L (l.take i)) (pa, pb)
   rw [← hps] at hnx
   simp only at hpm e2
   obtain ⟨a, rfl⟩ := Int.eq_ofNat_of_zero_le hpm.1.1
   obtain ⟨b, rfl⟩ := Int.eq_ofNat_of_zero_le hpm.2.1
   have ha : a < 12 := by omega
   have hb : b < 12 := by omega
   have hF := hok.1
   simp only [genStep, Int.toNat_natCast] at hnx
   have hn1 := congrArg Prod.fst hnx
   simp only at hn1
   generalize (genS (pkL L (l.take i))).1 = F at *
   have hJ := cjoin_ok F hF a b ha hb (H := [.box [.int .i64 (nn : Int), .slice (eRows es) .none], .box (fC F)]) (id := 1) rfl
   rw [← hn1] at hJ
   simp only [List.set_cons_succ, List.set_cons_zero] at hJ
   have hyI : (y : Int) < (L.length : Int) := by omega
   repeat' ((fail_if_success (with_reducible refine AWp.atSeq 8 ?_));(fail_if_success (with_reducible refine AWp.atLast 8 ?_));first|((first|(refine zT ?_;intro K' hK')|(refine zG ?_ ?_<;>(try refine zH ?_)<;>intro hguard<;>(try exact zX)<;>try intro K' hK'))<;>((try simp +contextual only [go_sem, hltI, e1, iRows_len, Int.toNat_natCast, Nat.mul_one]);(repeat' first|(with_reducible refine hK' _ _ ?_;clear hK' K')|exact zY|with_reducible refine And.intro ?_ ?_|(with_reducible intro hpath;try exact zP)|(refine hK' _ _ ?_;clear hK' K')|fail);try refine zS ?_))|(refine zE ?_;refine hK _ _ ?_;clear hK K)|(refine zN ?_;try refine zS ?_)|refine zA ?_|(refine zB ?_;intro K hK)|(refine zC ?_ ?_<;>(try refine zH ?_)<;>intro hcond<;>try exact zX)|fail)
   refine AWp.of_adr (by kernel_rfl) ?_
   have hy0 : 0 ≤ (y : Int) := by omega
   have h02 : (0 : Int) < ((2 : Nat) : Int) := by omega
   have h12' : (1 : Int) < ((2 : Nat) : Int) := by omega
   have hplI : ((pRows L).length : Int) = (L.length : Int) := by rw [pRows_len]
   refine ADr.segS' 11 [10] [(26, .c (.slice (pRows L) .none)), (27, .c (.int .i64 (y : Int))), (28, .c (.rptr [.int .i64 (a : Int), .int .i64 (b : Int)])), (29, .c (.rptr [.int .i64 (a : Int), .int .i64 (b : Int)])), (30, .c (.int .i64 (a : Int))), (31, .c (.slice (pRows L) .none)), (32, .c (.int .i64 (y : Int))), (33, .c (.rptr [.int .i64 (a : Int), .int .i64 (b : Int)])), (34, .c (.rptr [.int .i64 (b : Int)])), (35, .c (.int .i64 (b : Int)))] (by kernel_rfl) (by decide) (by decide) (by kernel_rfl) (zQW (And.intro e2 (And.intro hyI (And.intro hy0 (And.intro h02 (And.intro h12' pRows_len)))))) ?_
   refine SegRun.vc rfl rfl (fun K hK => ?_)
   simp only [go_sem]
   refine ⟨_, _, hJ, ?_⟩
   refine hK _ _ ⟨(zQW (And.intro e2 (And.intro hyI (And.intro hy0 (And.intro h02 (And.intro h12' pRows_len)))))), ?_⟩
   clear hK K
   simp only [setVals, aput, aeval, List.getD_cons_succ, List.getD_cons_zero, List.set_cons_succ, List.set_cons_zero]
   refine SegRun.nil' (ADr.done (by decide) ?_)
   repeat' (first|((first|(refine zT ?_;intro K' hK')|(refine zG ?_ ?_<;>(try refine zH ?_)<;>intro hguard<;>(try exact zX)<;>try intro K' hK'))<;>((try simp +contextual only [go_sem]);(repeat' first|(with_reducible refine hK' _ _ ?_;clear hK' K')|exact zY|with_reducible refine And.intro ?_ ?_|(with_reducible intro hpath;try exact zP)|(refine hK' _ _ ?_;clear hK' K')|fail);try refine zS ?_))|(refine zE ?_;refine hK _ _ ?_;clear hK K)|(refine zN ?_;try refine zS ?_)|refine zA ?_|(refine zB ?_;intro K hK)|(refine zC ?_ ?_<;>(try refine zH ?_)<;>intro hcond<;>try exact zX)|fail)
   refine ⟨i + 1,Weak.headN 2 41 [2, 7, 8, 20, 21, 22] (zV @fC_in),?_,?_⟩
   ·exact hlt
   ·omega
  ·have ei : i = l.length := by omega
   subst ei
   have hnl : ¬ ((l.length : Int) < l.length) := by omega
   rw [List.take_length] at hok ⊢
   have hP := cpartsR_ok _ hok.1 nn (by omega) (by omega)
   generalize (genS (pkL L l)).1 = F at *
   repeat' ((fail_if_success (with_reducible refine AWp.atSeq 10 ?_));(fail_if_success (with_reducible refine AWp.atLast 10 ?_));first|((first|(refine zT ?_;intro K' hK')|(refine zG ?_ ?_<;>(try refine zH ?_)<;>intro hguard<;>(try exact zX)<;>try intro K' hK'))<;>((try simp +contextual only [go_sem, hnl]);(repeat' first|(with_reducible refine hK' _ _ ?_;clear hK' K')|exact zY|with_reducible refine And.intro ?_ ?_|(with_reducible intro hpath;try exact zP)|(refine hK' _ _ ?_;clear hK' K')|fail);try refine zS ?_))|(refine zE ?_;refine hK _ _ ?_;clear hK K)|(refine zN ?_;try refine zS ?_)|refine zA ?_|(refine zB ?_;intro K hK)|(refine zC ?_ ?_<;>(try refine zH ?_)<;>intro hcond<;>try exact zX)|fail)
   refine AWp.freezeP 7 1 rfl rfl (fC_trees F) ?_
   simp only [List.set_cons_succ, List.set_cons_zero]
   repeat' (first|((first|(refine zT ?_;intro K' hK')|(refine zG ?_ ?_<;>(try refine zH ?_)<;>intro hguard<;>(try exact zX)<;>try intro K' hK'))<;>((try simp +contextual only [go_sem]);(repeat' first|(with_reducible refine hK' _ _ ?_;clear hK' K')|(with_reducible refine zK hP ?_;try simp +contextual only [go_sem])|exact zY|with_reducible refine And.intro ?_ ?_|(with_reducible intro hpath;try exact zP)|(refine hK' _ _ ?_;clear hK' K')|fail);try refine zS ?_))|(refine zE ?_;refine hK _ _ ?_;clear hK K)|(refine zN ?_;try refine zS ?_)|refine zA ?_|(refine zB ?_;intro K hK)|(refine zC ?_ ?_<;>(try refine zH ?_)<;>intro hcond<;>try exact zX)|fail)
   simp [Rets, aret, Blk.cells, ty, Try.results32, ares, toT1, toT, borrow, borrow0, capCell, toTree0, tint, tlists]
def wP (es : List E) (R : List Bool) : List (Int × Int) := (pairsE es).filter fun p => R.getD p.1.toNat false && R.getD p.2.toNat false
def rwStep (F : List Nat) (R : List Bool) (l : List Nat) (v : Nat) : List Nat := if R.getD v false = true then insT l (rootF F 12 v) else l
def rwL (F : List Nat) (R : List Bool) (k : Nat) : List Nat := (List.range k).foldl (rwStep F R) []
theorem rwL_succ (F : List Nat) (R : List Bool) (k : Nat) : rwL F R (k + 1) = rwStep F R (rwL F R k) k := by unfold rwL; rw [List.range_succ, List.foldl_append]; rfl
theorem rwL_len (F : List Nat) (R : List Bool) : ∀ k, (rwL F R k).length ≤ k := by
 intro k
 induction k with
 | zero => simp [rwL]
 | succ k ih =>
  rw [rwL_succ]; unfold rwStep
  split
  ·have := insT_len (rwL F R k) (rootF F 12 k); omega
  ·omega
def wholeB (es : List E) (n : Nat) (R : List Bool) : Bool := decide ((rwL (genS (wP es R)).1 R n).length = 1)
theorem wP_on (es : List E) (R : List Bool) (e : E) (h1 : R.getD e.a.toNat false = true) (h2 : R.getD e.b.toNat false = true) : wP (es ++ [e]) R = wP es R ++ [(e.a, e.b)] := by
 unfold wP pairsE
 rw [List.map_append, List.filter_append, List.map_cons, List.map_nil, List.filter_cons, if_pos (by simp only [h1, h2, Bool.and_self])]; rfl
theorem wP_off (es : List E) (R : List Bool) (e : E) (h : R.getD e.a.toNat false = false ∨ R.getD e.b.toNat false = false) : wP (es ++ [e]) R = wP es R := by
 unfold wP pairsE
 rw [List.map_append, List.filter_append, List.map_cons, List.map_nil, List.filter_cons, if_neg (by rcases h with h | h <;> simp only [h, Bool.false_and, Bool.and_false, Bool.false_eq_true, not_false_eq_true])]
 simp
theorem wP_in12 {g : G} (hc : checkG g = 0) (R : List Bool) : In12 (wP g.es R) := fun p hp => pairs_in12 hc p (List.mem_filter.1 hp).1
theorem getD_bool {R : List Bool} {i : Nat} (h : i < R.length) : R[i]? = some (R.getD i false) := by
 rw [List.getD_eq_getElem?_getD, List.getElem?_eq_getElem h]; rfl
theorem whole_ok (g : G) (n : Nat) (R : List Bool) (hc : checkG g = 0) (hn : g.n = n) (hR : R.length = n) (hl : g.es.length ≤ 40) : ACall Try.prog 60 [tG g, tbools R] (tbool (wholeB g.es n R)) := by
 have h12 := wP_in12 hc R
 have hrng := fun p hp => pairs_range hc (p := p) hp
 have hn12 := (checkG_zero.1 hc).1
 obtain ⟨nI, es⟩ := g
 simp only at h12 hl hn hn12 hrng ⊢
 subst hn
 have hn12' : n ≤ 12 := by omega
 have hg := cgrown_ok
 have hr12 : (List.range 12).length = 12 := List.length_range
 have h0 : (genS (wP (es.take 0) R)).1 = List.range 12 := rfl
 refine ACall.of_body Try.func60 rfl (by kernel_rfl) ?_
 simp only [entry, Try.ntmps60, tG, tbools]
 refine zU ?_
 generalize hRR : List.range 12 = Z at *
 have hof : (fT Z).map ofTree = fC Z := fT_of Z
 have hst := fC_store zero12 Z (by rw [hr12]; rfl)
 have hz : fC zero12 = [.int .i64 0, .int .i64 0, .int .i64 0, .int .i64 0, .int .i64 0, .int .i64 0, .int .i64 0, .int .i64 0, .int .i64 0, .int .i64 0, .int .i64 0, .int .i64 0] := rfl
 rw [hz] at hst
 unfold tF at hg
 refine zR (zc @eRows_len (zc @fC_len (zc @fC_free (zc @hof (zc @hst (zc @hr12 trivial)))))) (zc hg trivial) trivial ?_
 rw [← h0]
 refine AWp.loopS (α:=Nat) 53 (fun i=>[(1,.c (.slice (bRows R) .none)),(2,.c (.ptr 0 0)),(5,.c (.ptr 1 0)),(12,.c (.slice (eRows es) .none)),(13,.c (.int .i64 (es.length : Int))),(14,.c (.int .i64 (i : Int)))]) (fun i=>[.box [.int .i64 (n : Int), .slice (eRows es) .none], .box (fC (genS (wP (es.take i) R)).1)]) (fun i=>i ≤ es.length) (fun i=>es.length - i) (0) (hk:=Weak.headL 2 53 [1, 2, 5, 12, 13, 14] (zV @fC_in)) (h0:=?_) (round:=fun i hI=>?_)
 ·exact Nat.zero_le _
 ·have hi : i ≤ es.length := hI
  clear hI
  have hok := genS_ok (l := wP (es.take i) R) fun q hq => h12 q (by
   have := List.mem_filter.1 hq
   refine List.mem_filter.2 ⟨?_, this.2⟩
   obtain ⟨x, hx, rfl⟩ := List.mem_map.1 this.1
   exact List.mem_map.2 ⟨x, List.mem_of_mem_take hx, rfl⟩)
  by_cases hlt : i < es.length
  ·have hltI : (i : Int) < es.length := by omega
   have e0 := List.getElem?_eq_getElem hlt
   have e1 := eRows_get e0
   have hsn : es.take (i + 1) = es.take i ++ [es[i]] := List.take_succ_eq_append_getElem hlt
   have hon := wP_on (es.take i) R es[i]
   have hoff := wP_off (es.take i) R es[i]
   rw [← hsn] at hon hoff
   have hr := hrng (es[i].a, es[i].b) (List.mem_map.2 ⟨es[i], List.getElem_mem hlt, rfl⟩)
   generalize es[i] = x at *
   obtain ⟨xa, xb, xm⟩ := x
   simp only at hr hon hoff e1
   obtain ⟨a, rfl⟩ := Int.eq_ofNat_of_zero_le hr.1.1
   obtain ⟨b, rfl⟩ := Int.eq_ofNat_of_zero_le hr.2.1
   simp only [Int.toNat_natCast] at hon hoff
   have ha : a < 12 := by omega
   have hb : b < 12 := by omega
   have haI : (a : Int) < (n : Int) := by omega
   have hbI : (b : Int) < (n : Int) := by omega
   have ra := bRows_get (getD_bool (R := R) (i := a) (by omega))
   have rb := bRows_get (getD_bool (R := R) (i := b) (by omega))
   obtain ⟨pa, hpa⟩ : ∃ pa, R.getD a false = pa := ⟨_, rfl⟩
   obtain ⟨pb, hpb'⟩ : ∃ pb, R.getD b false = pb := ⟨_, rfl⟩
   rw [hpa] at hon hoff ra
   rw [hpb'] at hon hoff rb
   by_cases hp : (pa && pb) = true
   ·simp only [Bool.and_eq_true] at hp
    obtain ⟨rfl, rfl⟩ := hp
    have hps := hon rfl rfl
    have hnx := genS_snoc (wP (es.take i) R) ((a : Int), (b : Int))
    rw [← hps] at hnx
    have hF := hok.1
    simp only [genStep, Int.toNat_natCast] at hnx
    have hn1 := congrArg Prod.fst hnx
    simp only at hn1
    generalize (genS (wP (es.take i) R)).1 = F at *
    have hJ := cjoin_ok F hF a b ha hb (H := [.box [.int .i64 (n : Int), .slice (eRows es) .none], .box (fC F), .box [.int .i64 (a : Int), .int .i64 (b : Int), .int .i64 xm]]) (id := 1) rfl
    rw [← hn1] at hJ
    simp only [List.set_cons_succ, List.set_cons_zero] at hJ
    repeat' (first|((first|(refine zT ?_;intro K' hK')|(refine zG ?_ ?_<;>(try refine zH ?_)<;>intro hguard<;>(try exact zX)<;>try intro K' hK'))<;>((try simp +contextual only [go_sem, hltI, e1, ra, rb, haI, hbI, hR, eRows_len, bRows_len, Int.toNat_natCast]);(repeat' first|(with_reducible refine hK' _ _ ?_;clear hK' K')|((with_reducible first|refine ⟨_,_,hJ,?_⟩|refine ⟨_,hJ,?_⟩);try simp +contextual only [go_sem, hltI, e1, ra, rb, haI, hbI, hR, eRows_len, bRows_len, Int.toNat_natCast])|exact zY|with_reducible refine And.intro ?_ ?_|(with_reducible intro hpath;try exact zP)|(refine hK' _ _ ?_;clear hK' K')|fail);try refine zS ?_))|(refine zE ?_;refine hK _ _ ?_;clear hK K)|(refine zN ?_;try refine zS ?_)|refine zA ?_|(refine zB ?_;intro K hK)|(refine zC ?_ ?_<;>(try refine zH ?_)<;>intro hcond<;>try exact zX)|fail)
    refine ⟨i + 1,Weak.headN 2 53 [1, 2, 5, 12, 13, 14] (zV @fC_in),?_,?_⟩
    ·exact hlt
    ·omega
   ·have hps := hoff (by cases pa; exact .inl rfl; cases pb; exact .inr rfl; exact absurd rfl hp)
    rw [← hps] at hok ⊢
    cases pa
    ·
     refine zR (zc @hltI (zc @e1 (zc @ra (zc @rb (zc @haI (zc @hbI (zc @hR (zc @eRows_len (zc @bRows_len trivial))))))))) trivial trivial ?_
     refine ⟨i + 1,Weak.headN 2 53 [1, 2, 5, 12, 13, 14] (zV @fC_in),?_,?_⟩
     ·exact hlt
     ·omega
    ·have hpb : pb = false := by cases pb; rfl; exact absurd rfl hp
     subst hpb
     refine zR (zc @hltI (zc @e1 (zc @ra (zc @rb (zc @haI (zc @hbI (zc @hR (zc @eRows_len (zc @bRows_len trivial))))))))) trivial trivial ?_
     refine ⟨i + 1,Weak.headN 2 53 [1, 2, 5, 12, 13, 14] (zV @fC_in),?_,?_⟩
     ·exact hlt
     ·omega
  ·have ei : i = es.length := by omega
   subst ei
   have hnl : ¬ ((es.length : Int) < es.length) := by omega
   rw [List.take_length] at hok ⊢
   unfold wholeB
   have hF := hok.1
   generalize (genS (wP es R)).1 = F at *
   have hz0 : rwL F R 0 = [] := rfl
   have hm0 : mT (rwL F R 0) = [] := rfl
   repeat' ((fail_if_success (with_reducible refine AWp.atSeq 10 ?_));(fail_if_success (with_reducible refine AWp.atLast 10 ?_));first|((first|(refine zT ?_;intro K' hK')|(refine zG ?_ ?_<;>(try refine zH ?_)<;>intro hguard<;>(try exact zX)<;>try intro K' hK'))<;>((try simp +contextual only [go_sem, hnl]);(repeat' first|(with_reducible refine hK' _ _ ?_;clear hK' K')|exact zY|with_reducible refine And.intro ?_ ?_|(with_reducible intro hpath;try exact zP)|(refine hK' _ _ ?_;clear hK' K')|fail);try refine zS ?_))|(refine zE ?_;refine hK _ _ ?_;clear hK K)|(refine zN ?_;try refine zS ?_)|refine zA ?_|(refine zB ?_;intro K hK)|(refine zC ?_ ?_<;>(try refine zH ?_)<;>intro hcond<;>try exact zX)|fail)
   refine AWp.loopS (α:=Nat) 53 (fun v=>[(1,.c (.slice (bRows R) .none)),(5,.c (.ptr 1 0)),(8,.c (.map 2)),(38,.c (.int .i64 (n : Int))),(39,.c (.int .i64 (v : Int)))]) (fun v=>[.box [.int .i64 (n : Int), .slice (eRows es) .none], .box (fC F), .map (mT (rwL F R v))]) (fun v=>v ≤ n) (fun v=>n - v) (0) (hk:=Weak.headL 3 53 [1, 5, 8, 38, 39] (zV @fC_in)) (h0:=?_) (round:=fun v hI=>?_)
   ·exact Nat.zero_le _
   ·have hv : v ≤ n := hI
    clear hI
    by_cases hvl : v < n
    ·have hvI : (v : Int) < (n : Int) := by omega
     have rv := bRows_get (getD_bool (R := R) (i := v) (by omega))
     have hsu := rwL_succ F R v
     unfold rwStep at hsu
     have hroot := croot_call F hF v (by omega) (H := [.box [.int .i64 (n : Int), .slice (eRows es) .none], .box (fC F), .map (mT (rwL F R v))]) (id := 1) rfl
     obtain ⟨pv, hpv⟩ : ∃ pv, R.getD v false = pv := ⟨_, rfl⟩
     rw [hpv] at hsu rv
     generalize rwL F R v = l at *
     cases pv
     ·rw [if_neg (by simp)] at hsu
      refine zR (zc @hvI (zc @rv (zc @hR (zc @bRows_len trivial)))) trivial trivial ?_
      rw [← hsu]
      refine ⟨v + 1,Weak.headN 3 53 [1, 5, 8, 38, 39] (zV @fC_in),?_,?_⟩
      ·exact hvl
      ·omega
     ·rw [if_pos rfl] at hsu
      generalize rootF F 12 v = r at *
      repeat' (first|(with_reducible refine AWp.seq_drawM mapIB klInt zeroB (by with_unfolding_all rfl) (by with_unfolding_all kernel_rfl) (fun K hK=>?_))|(with_reducible refine AWp.last_drawM mapIB klInt zeroB (by with_unfolding_all rfl) (by with_unfolding_all kernel_rfl) (fun K hK=>?_))|((first|(refine zT ?_;intro K' hK')|(refine zG ?_ ?_<;>(try refine zH ?_)<;>intro hguard<;>(try exact zX)<;>try intro K' hK'))<;>((try simp +contextual only [go_sem, hvI, rv, hR, bRows_len, Int.toNat_natCast, toKey, mapIB, zeroB, mPut_mT]);(repeat' first|(with_reducible refine hK' _ _ ?_;clear hK' K')|((with_reducible first|refine ⟨_,_,hroot,?_⟩|refine ⟨_,hroot,?_⟩);try simp +contextual only [go_sem, hvI, rv, hR, bRows_len, Int.toNat_natCast, toKey, mapIB, zeroB, mPut_mT])|(refine ⟨_, klInt, rfl, mT_ok _, ?_⟩ ; simp +contextual only [go_sem, hvI, rv, hR, bRows_len, Int.toNat_natCast, toKey, mapIB, zeroB, mPut_mT])|(exact rfl)|(exact mT_ok _)|exact zY|with_reducible refine And.intro ?_ ?_|(with_reducible intro hpath;try exact zP)|(refine hK' _ _ ?_;clear hK' K')|fail);try refine zS ?_))|(refine zE ?_;refine hK _ _ ?_;clear hK K)|(refine zN ?_;try refine zS ?_)|refine zA ?_|(refine zB ?_;intro K hK)|(refine zC ?_ ?_<;>(try refine zH ?_)<;>intro hcond<;>try exact zX)|fail)
      rw [← hsu]
      refine ⟨v + 1,Weak.headN 3 53 [1, 5, 8, 38, 39] (zV @fC_in),?_,?_⟩
      ·exact hvl
      ·omega
    ·have hnl2 : ¬ ((v : Int) < (n : Int)) := by omega
     have ev : v = n := by omega
     subst ev
     have hll := rwL_len F R v
     have hd : decide ((rwL F R v).length = 1) = decide (((rwL F R v).length : Int) = 1) := decide_eq_decide.2 (by omega)
     rw [hd]
     repeat' (first|((with_reducible refine AWp.seq (AWp.of_reg (id:=15) (AReg.pre 1 (fun K hK=>?_))));simp only [List.take_succ_cons,List.take_zero])|((with_reducible refine AWp.of_reg (id:=15) (AReg.pre 1 (fun K hK=>?_)));simp only [List.take_succ_cons,List.take_zero])|((first|(refine zT ?_;intro K' hK')|(refine zG ?_ ?_<;>(try refine zH ?_)<;>intro hguard<;>(try exact zX)<;>try intro K' hK'))<;>((try simp +contextual only [go_sem, hnl2]);(repeat' first|(with_reducible refine hK' _ _ ?_;clear hK' K')|exact zY|with_reducible refine And.intro ?_ ?_|(with_reducible intro hpath;try exact zP)|(refine hK' _ _ ?_;clear hK' K')|fail);try refine zS ?_))|(refine zE ?_;refine hK _ _ ?_;clear hK K)|(refine zN ?_;try refine zS ?_)|refine zA ?_|(refine zB ?_;intro K hK)|(refine zC ?_ ?_<;>(try refine zH ?_)<;>intro hcond<;>try exact zX)|fail)
     simp only [List.drop_succ_cons, List.drop_zero]
     refine AReg.step rfl rfl (step_len_map _ 49 _ rfl rfl 3 4 mapIB 2 rfl (mT (rwL F R v)) rfl) ?_
     simp only [aput, List.set_cons_succ, List.set_cons_zero, mT_len]
     refine AReg.rest (fun K hK => ?_)
     repeat' (first|((first|(refine zT ?_;intro K' hK')|(refine zG ?_ ?_<;>(try refine zH ?_)<;>intro hguard<;>(try exact zX)<;>try intro K' hK'))<;>((try simp +contextual only [go_sem]);(repeat' first|(with_reducible refine hK' _ _ ?_;clear hK' K')|exact zY|with_reducible refine And.intro ?_ ?_|(with_reducible intro hpath;try exact zP)|(refine hK' _ _ ?_;clear hK' K')|fail);try refine zS ?_))|(refine zE ?_;refine hK _ _ ?_;clear hK K)|(refine zN ?_;try refine zS ?_)|refine zA ?_|(refine zB ?_;intro K hK)|(refine zC ?_ ?_<;>(try refine zH ?_)<;>intro hcond<;>try exact zX)|fail)
     simp [Rets, aret, Blk.cells, ty, Try.results60, ares, toT1, toT, borrow, borrow0, capCell, toTree0, tbool]
end Go.Proofs.Ytgklecfiflhjmaa
