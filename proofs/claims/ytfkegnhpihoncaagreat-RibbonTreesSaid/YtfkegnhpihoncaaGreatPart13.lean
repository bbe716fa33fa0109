/- A part of the proof. -/
import Derived.Test.YtfkegnhpihoncaaGreatPart12
import Derived.Test.YtfkegnhpihoncaaGreatLayerC
set_option linter.all false
set_option maxHeartbeats 4000000
set_option maxRecDepth 100000
namespace Go.Proofs.YtfkegnhpihoncaaGreat
open Go.Sp
def fT (F : List Nat) : List Tree := F.map fun (n : Nat) => Tree.int .i64 (n : Int)
def fC (F : List Nat) : List ACell := F.map fun (n : Nat) => ACell.int .i64 (n : Int)
structure FOk (F : List Nat) : Prop where
 len : F.length = 12
 le : ∀ i (h : i < F.length), F[i] ≤ i
theorem fT_drop {F : List Nat} {i : Nat} (h : i < F.length) : (fT F).drop i = .int .i64 F[i] :: (fT F).drop (i + 1) := by
 have h' : i < (fT F).length := by simp [fT, h]
 rw [List.drop_eq_getElem_cons h']
 simp [fT]
def rootF (F : List Nat) : Nat → Nat → Nat
 | 0, v => v
 | n + 1, v => if F.getD v v = v then v else rootF F n (F.getD v v)
theorem rootF_fuel {F : List Nat} (h : FOk F) : ∀ {n m v : Nat}, v < 12 → v ≤ n → v ≤ m → rootF F n v = rootF F m v := by
 intro n
 induction n with
 | zero =>
  intro m v _ h1 h2
  have : v = 0 := by omega
  subst this
  cases m with
  | zero => rfl
  | succ m =>
   have h3 := h.le 0 (by rw [h.len]; omega)
   simp only [rootF]
   rw [List.getD_eq_getElem?_getD, List.getElem?_eq_getElem (by rw [h.len]; omega), Option.getD_some, if_pos (by omega)]
 | succ n ih =>
  intro m v hv h1 h2
  have hl : v < F.length := by rw [h.len]; exact hv
  have h3 := h.le v hl
  have e : F.getD v v = F[v] := by rw [List.getD_eq_getElem?_getD, List.getElem?_eq_getElem hl, Option.getD_some]
  cases m with
  | zero =>
   have : v = 0 := by omega
   subst this
   simp only [rootF, e]
   rw [if_pos (by omega)]
  | succ m =>
   simp only [rootF, e]
   by_cases hx : F[v] = v
   ·rw [if_pos hx, if_pos hx]
   ·rw [if_neg hx, if_neg hx]
    exact ih (by omega) (by omega) (by omega)
theorem rootF_step {F : List Nat} (h : FOk F) {v : Nat} (hv : v < F.length) : rootF F 12 v = if F[v] = v then v else rootF F 12 F[v] := by
 have hv' : v < 12 := by rw [← h.len]; exact hv
 have e : F.getD v v = F[v] := by rw [List.getD_eq_getElem?_getD, List.getElem?_eq_getElem hv, Option.getD_some]
 have h3 := h.le v hv
 have : rootF F 12 v = if F[v] = v then v else rootF F 11 F[v] := by
  show (if F.getD v v = v then v else rootF F 11 (F.getD v v)) = _
  rw [e]
 rw [this]
 by_cases hx : F[v] = v
 ·rw [if_pos hx, if_pos hx]
 ·rw [if_neg hx, if_neg hx]; exact rootF_fuel h (by omega) (by omega) (by omega)
theorem rootF_le {F : List Nat} (h : FOk F) : ∀ {n v : Nat}, v < 12 → rootF F n v ≤ v := by
 intro n
 induction n with
 | zero => intro v _; exact Nat.le_refl _
 | succ n ih =>
  intro v hv
  have hl : v < F.length := by rw [h.len]; exact hv
  have h3 := h.le v hl
  have e : F.getD v v = F[v] := by rw [List.getD_eq_getElem?_getD, List.getElem?_eq_getElem hl, Option.getD_some]
  simp only [rootF, e]
  split
  ·exact Nat.le_refl _
  ·exact Nat.le_trans (ih (by omega)) h3
theorem setMany_mid (pre mid post new : List ACell) (h : new.length = mid.length) : setMany (pre ++ mid ++ post) pre.length new = pre ++ new ++ post := by
 apply List.ext_getElem?
 intro i
 rw [setMany_get _ _ _ _ (by simp; omega)]
 by_cases h1 : i < pre.length
 ·rw [if_neg (by omega), List.append_assoc, List.append_assoc, List.getElem?_append_left h1, List.getElem?_append_left h1]
 ·by_cases h2 : i < pre.length + new.length
  ·rw [if_pos ⟨by omega, h2⟩, List.append_assoc, List.getElem?_append_right (by omega), List.getElem?_append_left (by omega)]
  ·rw [if_neg (by omega), List.getElem?_append_right (by simp; omega), List.getElem?_append_right (l₁ := pre ++ new) (by simp; omega)]
   simp [h]
theorem flat_iRows (l : List Int) : flatRows (iRows l) = iC l := by
 unfold flatRows iRows iC
 induction l with
 | nil => rfl
 | cons x l ih => simp only [List.map_cons, List.flatten_cons, List.map_append, ih]; rfl
theorem iC_app (a b : List Int) : iC (a ++ b) = iC a ++ iC b := by simp [iC]
theorem iC_rep (n : Nat) (x : Int) : iC (List.replicate n x) = List.replicate n (.int .i64 x) := by simp [iC]
theorem iC_put (A l : List Int) (m : Nat) : setMany (iC (A ++ List.replicate (l.length + m) 0)) A.length (iC l) = iC (A ++ l ++ List.replicate m 0) := by
 have e : List.replicate (l.length + m) (0 : Int) = List.replicate l.length 0 ++ List.replicate m 0 := List.replicate_append_replicate.symm
 rw [e, ← List.append_assoc, iC_app, iC_app, iC_app, iC_app]
 have := setMany_mid (iC A) (iC (List.replicate l.length 0)) (iC (List.replicate m 0)) (iC l) (by simp [iC_len])
 rwa [iC_len] at this
def catT (ls : List (List Int)) (i : Nat) : List Int := (ls.take i).flatten
theorem catT_all (ls : List (List Int)) : catT ls ls.length = ls.flatten := by unfold catT; rw [List.take_length]
theorem Concat_ok (ls : List (List Int)) (h0 : 0 < ls.flatten.length) (hn : ls.flatten.length < 2 ^ 30) (hl : ls.length < 2 ^ 20) : ACall Tryz.prog 106 [tlists ls] (tints ls.flatten) := by
 have htake : ∀ i, i < ls.length → catT ls (i + 1) = catT ls i ++ ls.getD i [] := fun i hi => by
  unfold catT; rw [List.take_succ_eq_append_getElem hi, List.flatten_append, List.getD_eq_getElem?_getD, List.getElem?_eq_getElem hi]; simp
 have hle : ∀ i : Nat, (catT ls i).length ≤ ls.flatten.length := fun i => by
  unfold catT
  have := congrArg List.flatten (List.take_append_drop i ls)
  rw [List.flatten_append] at this
  have := congrArg List.length this
  rw [List.length_append] at this; omega
 refine ACall.of_body Tryz.func106 rfl (by kernel_rfl) ?_
 simp only [entry, Tryz.ntmps106, tlists]
 refine zU ?_
 refine zR (zc @llRows_len trivial) trivial trivial ?_
 refine AWp.loopS (α:=Nat) 36 (fun i=>[(0,.c (.slice (llRows ls) .none)),(3,.c (.int .i64 ((catT ls i).length : Int))),(9,.c (.slice (llRows ls) .none)),(10,.c (.int .i64 (ls.length : Int))),(11,.c (.int .i64 (i : Int)))]) (fun i=>[]) (fun i=>i ≤ ls.length) (fun i=>ls.length - i) (0) (hk:=Weak.headL 0 36 [0, 3, 9, 10, 11] (zV @iC_in)) (h0:=?_) (round:=fun i hI=>?_)
 ·exact Nat.zero_le _
 ·have hi : i ≤ ls.length := hI
  clear hI
  by_cases hlt : i < ls.length
  ·have hltI : (i : Int) < ls.length := by omega
   have e0 := List.getElem?_eq_getElem hlt
   have e1 := llRows_get e0
   have ht := htake i hlt
   have hl1 := hle (i + 1)
   rw [List.getD_eq_getElem?_getD, e0, Option.getD_some] at ht
   rw [ht, List.length_append] at hl1
   have hc : ((catT ls i).length : Int) + (ls[i].length : Int) = ((catT ls (i + 1)).length : Int) := by rw [ht, List.length_append]; omega
   have hge : ¬ (((catT ls (i + 1)).length : Int) < 0) := by omega
   generalize ls[i] = l at *
   generalize catT ls i = A at *
   refine zR (zc @hltI (zc @llRows_len (zc @iRows_len (zc @e1 (zc @hc (zc @hge trivial)))))) trivial trivial ?_
   refine ⟨i + 1,Weak.headN 0 36 [0, 3, 9, 10, 11] (zV @iC_in),?_,?_⟩
   ·exact hlt
   ·omega
  ·have ei : i = ls.length := by omega
   subst ei
   have hnl : ¬ ((ls.length : Int) < ls.length) := by omega
   rw [catT_all]
   have hG := Grow_ok [] ls.flatten.length h0 hn
   repeat' (first|((first|(refine zT ?_;intro K' hK')|(refine zG ?_ ?_<;>(try refine zH ?_)<;>intro hguard<;>(try exact zX)<;>try intro K' hK'))<;>((try simp +contextual only [go_sem, hnl, llRows_len]);(repeat' first|(with_reducible refine hK' _ _ ?_;clear hK' K')|((with_reducible first|refine ⟨_,_,hG,?_⟩|refine ⟨_,hG,?_⟩);try simp +contextual only [go_sem, hnl, llRows_len])|exact zY|with_reducible refine And.intro ?_ ?_|(with_reducible intro hpath;try exact zP)|(refine hK' _ _ ?_;clear hK' K')|fail);try refine zS ?_))|(refine zE ?_;refine hK _ _ ?_;clear hK K)|(refine zN ?_;try refine zS ?_)|refine zA ?_|(refine zB ?_;intro K hK)|(refine zC ?_ ?_<;>(try refine zH ?_)<;>intro hcond<;>try exact zX)|fail)
   try simp only [List.nil_append, List.length_nil]
   rw [← iC_rep]
   refine AWp.loopS (α:=Nat) 36 (fun i=>[(6,.c (.ref 0 1 0 (catT ls i).length ls.flatten.length)),(25,.c (.slice (llRows ls) .none)),(26,.c (.int .i64 (ls.length : Int))),(27,.c (.int .i64 (i : Int)))]) (fun i=>[.box (iC (catT ls i ++ List.replicate (ls.flatten.length - (catT ls i).length) 0))]) (fun i=>i ≤ ls.length) (fun i=>ls.length - i) (0) (hk:=Weak.headL 1 36 [6, 25, 26, 27] (zV @iC_in)) (h0:=?_) (round:=fun i hI=>?_)
   ·exact Nat.zero_le _
   ·have hi : i ≤ ls.length := hI
    clear hI
    by_cases hlt : i < ls.length
    ·have hltI : (i : Int) < ls.length := by omega
     have e0 := List.getElem?_eq_getElem hlt
     have e1 := llRows_get e0
     have ht := htake i hlt
     have hl1 := hle (i + 1)
     rw [List.getD_eq_getElem?_getD, e0, Option.getD_some] at ht
     rw [ht, List.length_append] at hl1
     have hm : ls.flatten.length - (catT ls i).length = ls[i].length + (ls.flatten.length - (catT ls (i + 1)).length) := by rw [ht, List.length_append]; omega
     have hp := iC_put (catT ls i) ls[i] (ls.flatten.length - (catT ls (i + 1)).length)
     rw [← hm, ← ht] at hp
     have hlen : (catT ls (i + 1)).length = (catT ls i).length + ls[i].length := by rw [ht, List.length_append]
     generalize ls[i] = l at *
     generalize hB : catT ls (i + 1) = B at *
     generalize catT ls i = A at *
     generalize ls.flatten.length = n at *
     repeat' (first|((with_reducible refine AWp.seq (AWp.of_reg (id:=13) (AReg.pre 2 (fun K hK=>?_))));simp only [List.take_succ_cons,List.take_zero])|((with_reducible refine AWp.of_reg (id:=13) (AReg.pre 2 (fun K hK=>?_)));simp only [List.take_succ_cons,List.take_zero])|((first|(refine zT ?_;intro K' hK')|(refine zG ?_ ?_<;>(try refine zH ?_)<;>intro hguard<;>(try exact zX)<;>try intro K' hK'))<;>((try simp +contextual only [go_sem, hltI, llRows_len, iRows_len, e1, Int.toNat_natCast]);(repeat' first|(with_reducible refine hK' _ _ ?_;clear hK' K')|exact zY|with_reducible refine And.intro ?_ ?_|(with_reducible intro hpath;try exact zP)|(refine hK' _ _ ?_;clear hK' K')|fail);try refine zS ?_))|(refine zE ?_;refine hK _ _ ?_;clear hK K)|(refine zN ?_;try refine zS ?_)|refine zA ?_|(refine zB ?_;intro K hK)|(refine zC ?_ ?_<;>(try refine zH ?_)<;>intro hcond<;>try exact zX)|fail)
     simp only [List.drop_succ_cons, List.drop_zero]
     refine AReg.step rfl rfl (step_append_ref (e := 3) (e2 := 3) (rows := iRows l) _ _ _ _ rfl (by simp only [ty]) (by simp only [ty]) (by simp only [ty]) rfl rfl (fun r hr => iRows_k' hr) rfl (by rw [iRows_len]; omega) (by rw [iRows_len, iC_len, List.length_append, List.length_replicate]; omega)) ?_
     simp only [flat_iRows, Nat.zero_add, hp, iRows_len, ← hlen, List.set_cons_zero]
     refine AReg.rest (fun K hK => ?_)
     repeat' (first|((first|(refine zT ?_;intro K' hK')|(refine zG ?_ ?_<;>(try refine zH ?_)<;>intro hguard<;>(try exact zX)<;>try intro K' hK'))<;>((try simp +contextual only [go_sem, hltI]);(repeat' first|(with_reducible refine hK' _ _ ?_;clear hK' K')|exact zY|with_reducible refine And.intro ?_ ?_|(with_reducible intro hpath;try exact zP)|(refine hK' _ _ ?_;clear hK' K')|fail);try refine zS ?_))|(refine zE ?_;refine hK _ _ ?_;clear hK K)|(refine zN ?_;try refine zS ?_)|refine zA ?_|(refine zB ?_;intro K hK)|(refine zC ?_ ?_<;>(try refine zH ?_)<;>intro hcond<;>try exact zX)|fail)
     refine ⟨i + 1,Weak.headF 1 36 [6, 25, 26, 27] (zc @hB trivial) (zV @iC_in),?_,?_⟩
     ·exact hlt
     ·omega
    ·have ei : i = ls.length := by omega
     subst ei
     have hnl : ¬ ((ls.length : Int) < ls.length) := by omega
     have hz : iC (catT ls ls.length ++ List.replicate (ls.flatten.length - (catT ls ls.length).length) 0) = iC ls.flatten := by rw [catT_all, Nat.sub_self, List.replicate_zero, List.append_nil]
     rw [hz, catT_all]
     repeat' ((fail_if_success (with_reducible refine AWp.atSeq 15 ?_));(fail_if_success (with_reducible refine AWp.atLast 15 ?_));first|((first|(refine zT ?_;intro K' hK')|(refine zG ?_ ?_<;>(try refine zH ?_)<;>intro hguard<;>(try exact zX)<;>try intro K' hK'))<;>((try simp +contextual only [go_sem, hnl]);(repeat' first|(with_reducible refine hK' _ _ ?_;clear hK' K')|exact zY|with_reducible refine And.intro ?_ ?_|(with_reducible intro hpath;try exact zP)|(refine hK' _ _ ?_;clear hK' K')|fail);try refine zS ?_))|(refine zE ?_;refine hK _ _ ?_;clear hK K)|(refine zN ?_;try refine zS ?_)|refine zA ?_|(refine zB ?_;intro K hK)|(refine zC ?_ ?_<;>(try refine zH ?_)<;>intro hcond<;>try exact zX)|fail)
     refine AWp.freezeR 6 0 1 ls.flatten.length ls.flatten.length rfl rfl (iC_trees _) (iRows ls.flatten) (by rw [iRows_len]) (Nat.le_refl _) (fun r hr => iRows_k' hr) (iRows_pre _) ?_
     simp only [List.set_cons_succ, List.set_cons_zero]
     refine zR trivial trivial trivial ?_
     simp [Rets, aret, Blk.cells, ty, Tryz.results106, ares, toT1, toT, borrow, borrow0, capCell, toTree0, tints]
end Go.Proofs.YtfkegnhpihoncaaGreat
