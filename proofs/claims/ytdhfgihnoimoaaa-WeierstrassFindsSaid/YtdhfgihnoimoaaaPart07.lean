/- A part of the proof. -/
import Derived.Test.YtdhfgihnoimoaaaPart05
import Derived.Test.YtdhfgihnoimoaaaPart06
import Derived.Test.YtdhfgihnoimoaaaLayerC
set_option linter.all false
set_option maxHeartbeats 4000000
set_option maxRecDepth 100000
namespace Go.Proofs.Ytdhfgihnoimoaaa
open Go.Sp
instance : DecidableEq E := fun x y => decidable_of_iff (x.a = y.a ∧ x.b = y.b ∧ x.m = y.m) (by cases x; cases y; simp)
def ltP (x : E) (a b : Int) : Prop := x.a < a ∨ (x.a = a ∧ x.b < b)
instance ltP.dec (x : E) (a b : Int) : Decidable (ltP x a b) := by unfold ltP; infer_instance
def fT (F : List Nat) : List Tree := F.map fun (n : Nat) => Tree.int .i64 (n : Int)
def fC (F : List Nat) : List ACell := F.map fun (n : Nat) => ACell.int .i64 (n : Int)
structure FOk (F : List Nat) : Prop where
 len : F.length = 12
 le : ∀ i (h : i < F.length), F[i] ≤ i
theorem fT_drop {F : List Nat} {i : Nat} (h : i < F.length) : (fT F).drop i = .int .i64 F[i] :: (fT F).drop (i + 1) := by
 have h' : i < (fT F).length := by simp [fT, h]
 rw [List.drop_eq_getElem_cons h']
 simp [fT]
def rootF (F : List Nat) : Nat → Nat → Nat
 | 0, v => v
 | n + 1, v => if F.getD v v = v then v else rootF F n (F.getD v v)
theorem rootF_fuel {F : List Nat} (h : FOk F) : ∀ {n m v : Nat}, v < 12 → v ≤ n → v ≤ m → rootF F n v = rootF F m v := by
 intro n
 induction n with
 | zero =>
  intro m v _ h1 h2
  have : v = 0 := by omega
  subst this
  cases m with
  | zero => rfl
  | succ m =>
   have h3 := h.le 0 (by rw [h.len]; omega)
   simp only [rootF]
   rw [List.getD_eq_getElem?_getD, List.getElem?_eq_getElem (by rw [h.len]; omega), Option.getD_some, if_pos (by omega)]
 | succ n ih =>
  intro m v hv h1 h2
  have hl : v < F.length := by rw [h.len]; exact hv
  have h3 := h.le v hl
  have e : F.getD v v = F[v] := by rw [List.getD_eq_getElem?_getD, List.getElem?_eq_getElem hl, Option.getD_some]
  cases m with
  | zero =>
   have : v = 0 := by omega
   subst this
   simp only [rootF, e]
   rw [if_pos (by omega)]
  | succ m =>
   simp only [rootF, e]
   by_cases hx : F[v] = v
   ·rw [if_pos hx, if_pos hx]
   ·rw [if_neg hx, if_neg hx]
    exact ih (by omega) (by omega) (by omega)
theorem rootF_step {F : List Nat} (h : FOk F) {v : Nat} (hv : v < F.length) : rootF F 12 v = if F[v] = v then v else rootF F 12 F[v] := by
 have hv' : v < 12 := by rw [← h.len]; exact hv
 have e : F.getD v v = F[v] := by rw [List.getD_eq_getElem?_getD, List.getElem?_eq_getElem hv, Option.getD_some]
 have h3 := h.le v hv
 have : rootF F 12 v = if F[v] = v then v else rootF F 11 F[v] := by
  show (if F.getD v v = v then v else rootF F 11 (F.getD v v)) = _
  rw [e]
 rw [this]
 by_cases hx : F[v] = v
 ·rw [if_pos hx, if_pos hx]
 ·rw [if_neg hx, if_neg hx]; exact rootF_fuel h (by omega) (by omega) (by omega)
theorem rootF_le {F : List Nat} (h : FOk F) : ∀ {n v : Nat}, v < 12 → rootF F n v ≤ v := by
 intro n
 induction n with
 | zero => intro v _; exact Nat.le_refl _
 | succ n ih =>
  intro v hv
  have hl : v < F.length := by rw [h.len]; exact hv
  have h3 := h.le v hl
  have e : F.getD v v = F[v] := by rw [List.getD_eq_getElem?_getD, List.getElem?_eq_getElem hl, Option.getD_some]
  simp only [rootF, e]
  split
  ·exact Nat.le_refl _
  ·exact Nat.le_trans (ih (by omega)) h3
theorem root_ok (F : List Nat) (h : FOk F) (v : Nat) (hv : v < 12) : ACall Try.prog 79 [.t (.rptr (fT F)), tint v] (tint (rootF F 12 v)) := by
 have hF := h.len
 refine ACall.of_body Try.func79 rfl (by kernel_rfl) ?_
 simp only [entry, Try.ntmps79, tint]
 refine zU ?_
 refine zR trivial trivial trivial ?_
 refine AWp.loopS (α:=Nat) 18 (fun u=>[(0,.c (.rptr (fT F))),(1,.c (.int .i64 (u : Int)))]) (fun u=>[]) (fun u=>u < 12 ∧ rootF F 12 v = rootF F 12 u) (fun u=>u) (v) (hk:=Weak.headL 0 18 [0, 1] zW) (h0:=?_) (round:=fun u hI=>?_)
 ·exact ⟨hv, rfl⟩
 ·obtain ⟨hu, hx⟩ := hI
  have hul : u < F.length := by omega
  have e1 := fT_drop hul
  have e2 := rootF_step h hul
  have e3 := h.le u hul
  repeat' (first|((first|(refine zT ?_;intro K' hK')|(refine zG ?_ ?_<;>(try refine zH ?_)<;>intro hguard<;>(try exact zX)<;>try intro K' hK'))<;>((try simp +contextual only [go_sem, e1, Int.toNat_natCast, Nat.mul_one]);(repeat' first|(with_reducible refine hK' _ _ ?_;clear hK' K')|exact zY|with_reducible refine And.intro ?_ ?_|(with_reducible intro hpath;try exact zP)|(refine hK' _ _ ?_;clear hK' K')|fail);try refine zS ?_))|(refine zE ?_;refine hK _ _ ?_;clear hK K)|(refine zN ?_;try refine zS ?_)|refine zA ?_|(refine zB ?_;intro K hK)|(refine zC ?_ ?_<;>(try refine zH ?_)<;>intro hcond<;>try exact zX)|fail)
  ·rw [if_neg (by omega)] at e2
   refine ⟨F[u],Weak.headN 0 18 [0, 1] zW,?_,?_⟩
   ·exact ⟨by omega, by rw [hx, e2]⟩
   ·omega
  ·rw [if_pos (by omega)] at e2
   have e : rootF F 12 v = u := by rw [hx, e2]
   simp [Rets, aret, Blk.cells, ty, Try.results79, ares, toT1, toT, borrow, borrow0, capCell, toTree0, tint, e]
theorem setMany_mid (pre mid post new : List ACell) (h : new.length = mid.length) : setMany (pre ++ mid ++ post) pre.length new = pre ++ new ++ post := by
 apply List.ext_getElem?
 intro i
 rw [setMany_get _ _ _ _ (by simp; omega)]
 by_cases h1 : i < pre.length
 ·rw [if_neg (by omega), List.append_assoc, List.append_assoc, List.getElem?_append_left h1, List.getElem?_append_left h1]
 ·by_cases h2 : i < pre.length + new.length
  ·rw [if_pos ⟨by omega, h2⟩, List.append_assoc, List.getElem?_append_right (by omega), List.getElem?_append_left (by omega)]
  ·rw [if_neg (by omega), List.getElem?_append_right (by simp; omega), List.getElem?_append_right (l₁ := pre ++ new) (by simp; omega)]
   simp [h]
theorem flat_iRows (l : List Int) : flatRows (iRows l) = iC l := by
 unfold flatRows iRows iC
 induction l with
 | nil => rfl
 | cons x l ih => simp only [List.map_cons, List.flatten_cons, List.map_append, ih]; rfl
theorem iC_app (a b : List Int) : iC (a ++ b) = iC a ++ iC b := by simp [iC]
theorem iC_rep (n : Nat) (x : Int) : iC (List.replicate n x) = List.replicate n (.int .i64 x) := by simp [iC]
theorem iC_put (A l : List Int) (m : Nat) : setMany (iC (A ++ List.replicate (l.length + m) 0)) A.length (iC l) = iC (A ++ l ++ List.replicate m 0) := by
 have e : List.replicate (l.length + m) (0 : Int) = List.replicate l.length 0 ++ List.replicate m 0 := List.replicate_append_replicate.symm
 rw [e, ← List.append_assoc, iC_app, iC_app, iC_app, iC_app]
 have := setMany_mid (iC A) (iC (List.replicate l.length 0)) (iC (List.replicate m 0)) (iC l) (by simp [iC_len])
 rwa [iC_len] at this
end Go.Proofs.Ytdhfgihnoimoaaa
