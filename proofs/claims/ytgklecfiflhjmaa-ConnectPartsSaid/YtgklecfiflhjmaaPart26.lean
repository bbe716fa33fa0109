/- A part of the proof. -/
import Derived.Test.YtgklecfiflhjmaaPart25
import Derived.Test.YtgklecfiflhjmaaLayerC
import Derived.Test.YtgklecfiflhjmaaPart20
set_option linter.all false
set_option maxHeartbeats 4000000
set_option maxRecDepth 100000
namespace Go.Proofs.Ytgklecfiflhjmaa
open Go.Sp
theorem fC_in {m : Nat} {F : List Nat} : Go.Sp.cellsIn m (fC F) := cellsIn_map fun _ => True.intro
def tF (F : List Nat) : TVal := .agg (fT F)
theorem fT_of (F : List Nat) : (fT F).map ofTree = fC F := by simp [fT, fC, ofTree]
theorem fC_store (Z F : List Nat) (h : Z.length = F.length) : setMany (fC Z) 0 (fC F) = fC F := by
 apply List.ext_getElem?
 intro i
 rw [setMany_get _ _ _ _ (by simp [fC_len, h])]
 by_cases hi : i < F.length
 ·rw [if_pos ⟨Nat.zero_le _, by rw [fC_len]; omega⟩, Nat.sub_zero]
 ·rw [if_neg (by rw [fC_len]; omega), List.getElem?_eq_none (by rw [fC_len]; omega), List.getElem?_eq_none (by rw [fC_len]; omega)]
theorem fC_free : ∀ F : List Nat, anyFree (fC F) = true
 | [] => rfl
 | _ :: F => fC_free F
theorem fC_borrow (H : List Blk) : ∀ F : List Nat, (fC F).mapM (borrow H) = some (fT F)
 | [] => rfl
 | x :: F => by
  have ih := fC_borrow H F
  simp only [fC, fT, List.map_cons, List.mapM_cons] at ih ⊢
  rw [ih]; rfl
theorem cgrown_ok : ACall Try.prog 67 [] (tF (List.range 12)) := by
 refine ACall.of_body Try.func67 rfl (by kernel_rfl) ?_
 simp only [entry, Try.ntmps67]
 refine zU ?_
 refine zR trivial trivial trivial ?_
 refine AWp.loopS (α:=Nat) 11 (fun i=>[(0,.c (.ptr 0 0)),(1,.c (.ptr 1 0)),(3,.c (.int .i64 (i : Int)))]) (fun i=>[.box (fC (List.replicate 12 0)), .box (fC (initF i))]) (fun i=>i ≤ 12) (fun i=>12 - i) (0) (hk:=Weak.headL 2 11 [0, 1, 3] (zV @fC_in)) (h0:=?_) (round:=fun i hI=>?_)
 ·exact Nat.zero_le _
 ·by_cases hlt : i < 12
  ·have hset := initF_set hlt
   have hlen := initF_len hI
   generalize initF i = F at *
   refine zR (zc @fC_len (zc @hlen (zc @fC_set (zc @fC_set2 (zc @hset trivial))))) trivial trivial ?_
   refine ⟨i + 1,Weak.headN 2 11 [0, 1, 3] (zV @fC_in),?_,?_⟩
   ·exact hlt
   ·omega
  ·have ei : i = 12 := by omega
   subst ei
   rw [initF_12]
   have hl : (List.range 12).length = 12 := List.length_range
   generalize List.range 12 = F at *
   have ht : (fC F).take 12 = fC F := List.take_of_length_le (by rw [fC_len, hl]; exact Nat.le_refl _)
   have hs := fC_store (List.replicate 12 0) F (by simp [hl])
   have hlr : (List.replicate 12 0 : List Nat).length = 12 := by simp
   generalize List.replicate 12 0 = Z at *
   refine zR (zc @fC_len (zc @hl (zc @hlr (zc @ht (zc @hs (zc @fC_free trivial)))))) trivial trivial ?_
   have hm := fC_borrow [Blk.box (fC F), Blk.box (fC F)] F
   simp [Rets, aret, Blk.cells, ty, Try.results67, ares, toT1, toT, borrow, borrow0, capCell, toTree0, hm, hl, ht, fC_len, tF]
theorem croot_ok (F : List Nat) (h : FOk F) (v : Nat) (hv : v < 12) : ACall Try.prog 81 [.t (.rptr (fT F)), tint v] (tint (rootF F 12 v)) := by
 have hF := h.len
 refine ACall.of_body Try.func81 rfl (by kernel_rfl) ?_
 simp only [entry, Try.ntmps81, tint]
 refine zU ?_
 refine zR trivial trivial trivial ?_
 refine AWp.loopS (α:=Nat) 18 (fun u=>[(0,.c (.rptr (fT F))),(1,.c (.int .i64 (u : Int)))]) (fun u=>[]) (fun u=>u < 12 ∧ rootF F 12 v = rootF F 12 u) (fun u=>u) (v) (hk:=Weak.headL 0 18 [0, 1] (zV @fC_in)) (h0:=?_) (round:=fun u hI=>?_)
 ·exact ⟨hv, rfl⟩
 ·obtain ⟨hu, hx⟩ := hI
  have hul : u < F.length := by omega
  have e1 := fT_drop hul
  have e2 := rootF_step h hul
  have e3 := h.le u hul
  repeat' (first|((first|(refine zT ?_;intro K' hK')|(refine zG ?_ ?_<;>(try refine zH ?_)<;>intro hguard<;>(try exact zX)<;>try intro K' hK'))<;>((try simp +contextual only [go_sem, e1, Int.toNat_natCast, Nat.mul_one]);(repeat' first|(with_reducible refine hK' _ _ ?_;clear hK' K')|exact zY|with_reducible refine And.intro ?_ ?_|(with_reducible intro hpath;try exact zP)|(refine hK' _ _ ?_;clear hK' K')|fail);try refine zS ?_))|(refine zE ?_;refine hK _ _ ?_;clear hK K)|(refine zN ?_;try refine zS ?_)|refine zA ?_|(refine zB ?_;intro K hK)|(refine zC ?_ ?_<;>(try refine zH ?_)<;>intro hcond<;>try exact zX)|fail)
  ·rw [if_neg (by omega)] at e2
   refine ⟨F[u],Weak.headN 0 18 [0, 1] (zV @fC_in),?_,?_⟩
   ·exact ⟨by omega, by rw [hx, e2]⟩
   ·omega
  ·rw [if_pos (by omega)] at e2
   have e : rootF F 12 v = u := by rw [hx, e2]
   simp [Rets, aret, Blk.cells, ty, Try.results81, ares, toT1, toT, borrow, borrow0, capCell, toTree0, tint, e]
theorem croot_call (F : List Nat) (h : FOk F) (v : Nat) (hv : v < 12) {H : List Blk} {id : Nat} (hb : H[id]? = some (.box (fC F))) :
  ACallH Try.prog 81 H [.c (.ptr id 0), .c (.int .i64 (v : Int))] H (.c (.int .i64 (rootF F 12 v : Nat))) :=
 ACall.hb (croot_ok F h v hv) (by simp [toT, borrow, borrow0, hb, Blk.cells, mapM_fT, toTree0, tint]) rfl
theorem cjoin_ok (F : List Nat) (h : FOk F) (a b : Nat) (ha : a < 12) (hb : b < 12) {H : List Blk} {id : Nat} (hid : H[id]? = some (.box (fC F))) :
  ACallH Try.prog 68 H [.c (.ptr id 0), .c (.int .i64 (a : Int)), .c (.int .i64 (b : Int))] (H.set id (.box (fC (F.set (max (rootF F 12 a) (rootF F 12 b)) (min (rootF F 12 a) (rootF F 12 b)))))) (.tup []) := by
 have rx := croot_call F h a ha hid
 have ry := croot_call F h b hb hid
 have la := rootF_le h (n := 12) ha
 have lb := rootF_le h (n := 12) hb
 generalize rootF F 12 a = x at *
 generalize rootF F 12 b = y at *
 have hmax : max (x : Int) (y : Int) = ((max x y : Nat) : Int) := by omega
 have hmin : min (x : Int) (y : Int) = ((min x y : Nat) : Int) := by omega
 refine ACallH.of_body Try.func68 rfl (by kernel_rfl) ?_
 simp only [entry, Try.ntmps68, List.length_cons, List.length_nil, Nat.reduceAdd, Nat.reduceSub, List.replicate_succ, List.replicate_zero, List.cons_append, List.nil_append]
 repeat' (first|((first|(refine zT ?_;intro K' hK')|(refine zG ?_ ?_<;>(try refine zH ?_)<;>intro hguard<;>(try exact zX)<;>try intro K' hK'))<;>((try simp +contextual only [go_sem, Int.toNat_natCast, Nat.mul_one, fC_len, fC_set, fC_set2, hmax, hmin, h.len, hid]);(repeat' first|(with_reducible refine hK' _ _ ?_;clear hK' K')|((with_reducible first|refine ⟨_,_,rx,?_⟩|refine ⟨_,rx,?_⟩|refine ⟨_,_,ry,?_⟩|refine ⟨_,ry,?_⟩);try simp +contextual only [go_sem, Int.toNat_natCast, Nat.mul_one, fC_len, fC_set, fC_set2, hmax, hmin, h.len, hid])|exact zY|with_reducible refine And.intro ?_ ?_|(with_reducible intro hpath;try exact zP)|(refine hK' _ _ ?_;clear hK' K')|fail);try refine zS ?_))|(refine zE ?_;refine hK _ _ ?_;clear hK K)|(refine zN ?_;try refine zS ?_)|refine zA ?_|(refine zB ?_;intro K hK)|(refine zC ?_ ?_<;>(try refine zH ?_)<;>intro hcond<;>try exact zX)|fail)
 simp [RetsH, aretH, ares, noTup, Try.results68]
def isP (a b : Int) (p : Int × Int) : Bool := decide (min p.1 p.2 = a ∧ max p.1 p.2 = b)
theorem cntL_bag (l : List (Int × Int)) (a b : Int) : ∀ k, k ≤ l.length → cntL (bagL (l.take k)) a b = ((l.take k).countP (isP a b) : Int) := by
 intro k
 induction k with
 | zero => intro _; rfl
 | succ k ih =>
  intro hk
  have e0 := List.getElem?_eq_getElem (l := l) (i := k) (by omega)
  rw [take_snoc e0, bagL_snoc, bagStep, cntL_put, List.countP_append, List.countP_cons, List.countP_nil]
  have ih := ih (by omega)
  by_cases h : a = min l[k].1 l[k].2 ∧ b = max l[k].1 l[k].2
  ·rw [if_pos h, ← h.1, ← h.2, ih, if_pos (by unfold isP; simp [h.1, h.2])]; omega
  ·rw [if_neg h, ih, if_neg (by unfold isP; simp only [decide_eq_true_eq]; omega)]; omega
theorem bag_ok {n : Int} {l : List (Int × Int)} (h : ∀ p, p ∈ l → okP n p) : ∀ k, k ≤ l.length → BagOk n k (bagL (l.take k)) := by
 intro k
 induction k with
 | zero => intro _; exact ⟨List.Pairwise.nil, by simp [bagL], by simp [bagL], by simp [bagL]⟩
 | succ k ih =>
  intro hk
  have e0 := List.getElem?_eq_getElem (l := l) (i := k) (by omega)
  have ho := h _ (List.getElem_mem (by omega : k < l.length))
  rw [take_snoc e0, bagL_snoc]
  exact bag_step (ih (by omega)) ho.1 ho.2
instance (n : Int) (p : Int × Int) : Decidable (okP n p) := by unfold okP; infer_instance
theorem _root_.Go.Sp.Weak.untok {h : Nat} {tm : List AVal} {H : List Blk} (t : Nat) {rows : List (List Tree)} {tok : Tok} (ht : tm[t]? = some (.c (.slice rows tok))) : Weak h ⟨tm, H⟩ ⟨tm.set t (.c (.slice rows .none)), H⟩ := by
 intro ι σ a w hr
 exact ⟨ι, ⟨tmps_set ht (fun v hv => ⟨hv.1, trivial⟩) hr.tmps, hr.heap⟩, rfl, rfl⟩
end Go.Proofs.Ytgklecfiflhjmaa
