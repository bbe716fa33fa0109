/- A part of the proof. -/
import Derived.Test.YtfkegnhpihoncaaGreatPart07
import Derived.Test.YtfkegnhpihoncaaGreatPart02
import Derived.Test.YtfkegnhpihoncaaGreatLayerC
set_option linter.all false
set_option maxHeartbeats 4000000
set_option maxRecDepth 100000
namespace Go.Proofs.YtfkegnhpihoncaaGreat
open Go.Sp
def iRows (l : List Int) : List (List Tree) := l.map fun x => [.int .i64 x]
def tints (l : List Int) : TVal := .t (.slice (iRows l))
attribute [go_sem] tints
theorem iRows_len (l : List Int) : (iRows l).length = l.length := by simp [iRows]
theorem iRows_get {l : List Int} {i : Nat} {x : Int} (h : l[i]? = some x) : (iRows l)[i]? = some [.int .i64 x] := by simp [iRows, h]
theorem iRows_k' {l : List Int} {r : List Tree} (h : r ∈ iRows l) : r.length = 1 := by
 obtain ⟨x, _, rfl⟩ := List.mem_map.1 h; rfl
theorem iRows_snoc (l : List Int) (a : Int) : iRows l ++ [[.int .i64 a]] = iRows (l ++ [a]) := by simp [iRows]
theorem Size_ok (g : G) (hl : g.es.length < 2 ^ 30) : ACall Tryz.prog 158 [tG g] (.tup [tint (if checkG g ≠ 0 then 0 else (endsL g.es).length), tint (checkG g)]) := by
 have h := Ends_ok g hl
 by_cases hc : checkG g ≠ 0
 ·rw [if_pos hc] at h ⊢
  refine ACall.of_body Tryz.func158 rfl (by kernel_rfl) ?_
  simp only [entry, Tryz.ntmps158, tG]
  refine zU ?_
  refine zR trivial (zc h trivial) trivial ?_
  simp [Rets, aret, Blk.cells, ty, Tryz.results158, ares, toT1, toT, borrow, borrow0, capCell, toTree0, tint]
 ·rw [if_neg hc] at h ⊢
  refine ACall.of_body Tryz.func158 rfl (by kernel_rfl) ?_
  simp only [entry, Tryz.ntmps158, tG]
  refine zU ?_
  refine zR (zc @pRows_len trivial) (zc h trivial) trivial ?_
  have e : checkG g = 0 := by omega
  simp [Rets, aret, Blk.cells, ty, Tryz.results158, ares, toT1, toT, borrow, borrow0, capCell, toTree0, tint, e]
def idxI : List Int → Int → Int
 | [], _ => -1
 | x :: xs, v => if x = v then 0 else if idxI xs v < 0 then -1 else idxI xs v + 1
theorem idxI_ge (l : List Int) (v : Int) : -1 ≤ idxI l v := by
 induction l with
 | nil => simp [idxI]
 | cons x xs ih => simp only [idxI]; (repeat' split) <;> omega
theorem idxI_drop {l : List Int} {v : Int} : ∀ {k : Nat}, (∀ j, j < k → ∀ x, l[j]? = some x → x ≠ v) → k ≤ l.length → idxI l v = if idxI (l.drop k) v < 0 then -1 else idxI (l.drop k) v + k := by
 induction l with
 | nil => intro k _ hk; simp [idxI]
 | cons x xs ih =>
  intro k h hk
  cases k with
  | zero => have := idxI_ge (x :: xs) v; simp only [List.drop_zero, Int.natCast_zero]; split <;> omega
  | succ k =>
   have h0 := h 0 (by omega) x rfl
   have := ih (k := k) (fun j hj y hy => h (j + 1) (by omega) y (by simpa using hy)) (by simpa using hk)
   simp only [idxI, List.drop_succ_cons, if_neg h0, this]
   have h1 := idxI_ge (xs.drop k) v
   (repeat' split) <;> omega
theorem idxI_hit {l : List Int} {v : Int} {k : Nat} (h : ∀ j, j < k → ∀ x, l[j]? = some x → x ≠ v) (hk : k < l.length) (e : l[k] = v) : idxI l v = k := by
 rw [idxI_drop h (by omega), List.drop_eq_getElem_cons hk, idxI, if_pos e]; simp
theorem idxI_miss {l : List Int} {v : Int} (h : ∀ j, j < l.length → ∀ x, l[j]? = some x → x ≠ v) : idxI l v = -1 := by
 rw [idxI_drop h (Nat.le_refl _), List.drop_length]; simp [idxI]
theorem Index_ok (l : List Int) (v : Int) (hl : l.length < 2 ^ 40) : ACall Tryz.prog 104 [tints l, tint v] (tint (idxI l v)) := by
 refine ACall.of_body Tryz.func104 rfl (by kernel_rfl) ?_
 simp only [entry, Tryz.ntmps104, tints, tint]
 refine zU ?_
 refine zR (zc @iRows_len trivial) trivial trivial ?_
 refine AWp.loopS (α:=Nat) 19 (fun k=>[(0,.c (.slice (iRows l) .none)),(1,.c (.int .i64 v)),(7,.c (.int .i64 l.length)),(8,.c (.int .i64 (k : Int)))]) (fun k=>[]) (fun k=>k ≤ l.length ∧ ∀ j, j < k → ∀ x, l[j]? = some x → x ≠ v) (fun k=>l.length - k) (0) (hk:=Weak.headL 0 19 [0, 1, 7, 8] zW) (h0:=?_) (round:=fun k hI=>?_)
 ·exact ⟨Nat.zero_le _, fun j hj => by omega⟩
 ·obtain ⟨hk, hx⟩ := hI
  by_cases hlt : k < l.length
  ·have e1 := iRows_get (List.getElem?_eq_getElem hlt)
   repeat' (first|((first|(refine zT ?_;intro K' hK')|(refine zG ?_ ?_<;>(try refine zH ?_)<;>intro hguard<;>(try exact zX)<;>try intro K' hK'))<;>((try simp +contextual only [go_sem, e1, Int.toNat_natCast, Int.ofNat_lt]);(repeat' first|(with_reducible refine hK' _ _ ?_;clear hK' K')|exact zY|with_reducible refine And.intro ?_ ?_|(with_reducible intro hpath;try exact zP)|(refine hK' _ _ ?_;clear hK' K')|fail);try refine zS ?_))|(refine zE ?_;refine hK _ _ ?_;clear hK K)|(refine zN ?_;try refine zS ?_)|refine zA ?_|(refine zB ?_;intro K hK)|(refine zC ?_ ?_<;>(try refine zH ?_)<;>intro hcond<;>try exact zX)|fail)
   ·have hv : idxI l v = k := idxI_hit hx hlt (by omega)
    simp [Rets, aret, Blk.cells, ty, Tryz.results104, ares, toT1, toT, borrow, borrow0, capCell, toTree0, tint, hv]
   ·refine ⟨k + 1,Weak.headN 0 19 [0, 1, 7, 8] zW,?_,?_⟩
    ·refine ⟨hlt, fun j hj x hjx => ?_⟩
     by_cases hjk : j = k
     ·subst hjk; rw [List.getElem?_eq_getElem hlt] at hjx; cases hjx; omega
     ·exact hx j (by omega) x hjx
    ·omega
  ·have hv : idxI l v = -1 := idxI_miss (fun j hj => hx j (by omega))
   refine zR (zc @Int.ofNat_lt trivial) trivial trivial ?_
   simp [Rets, aret, Blk.cells, ty, Tryz.results104, ares, toT1, toT, borrow, borrow0, capCell, toTree0, tint, hv]
theorem idxI_mem (l : List Int) (v : Int) : 0 ≤ idxI l v ↔ v ∈ l := by
 induction l with
 | nil => simp [idxI]
 | cons x xs ih =>
  simp only [idxI, List.mem_cons]
  have h1 := idxI_ge xs v
  by_cases h : x = v
  ·simp [h]
  ·rw [if_neg h]
   have : ¬ v = x := fun e => h e.symm
   simp only [this, false_or, ← ih]
   split <;> omega
theorem Contains_ok (l : List Int) (v : Int) (hl : l.length < 2 ^ 40) : ACall Tryz.prog 81 [tints l, tint v] (tbool (decide (v ∈ l))) := by
 have e := idxI_mem l v
 refine ACall.of_body Tryz.func81 rfl (by kernel_rfl) ?_
 simp only [entry, Tryz.ntmps81, tints, tint]
 refine zU ?_
 refine zR trivial (zc (Index_ok l v hl) trivial) trivial ?_
 simp [Rets, aret, Blk.cells, ty, Tryz.results81, ares, toT1, toT, borrow, borrow0, capCell, toTree0, tbool, e]
theorem Equal_ok (l m : List Int) (hl : l.length < 2 ^ 40) (hm : m.length < 2 ^ 40) : ACall Tryz.prog 38 [tints l, tints m] (tbool (decide (l = m))) := by
 refine ACall.of_body Tryz.func38 rfl (by kernel_rfl) ?_
 simp only [entry, Tryz.ntmps38, tints]
 refine zU ?_
 repeat' (first|((first|(refine zT ?_;intro K' hK')|(refine zG ?_ ?_<;>(try refine zH ?_)<;>intro hguard<;>(try exact zX)<;>try intro K' hK'))<;>((try simp +contextual only [go_sem, iRows_len]);(repeat' first|(with_reducible refine hK' _ _ ?_;clear hK' K')|exact zY|with_reducible refine And.intro ?_ ?_|(with_reducible intro hpath;try exact zP)|(refine hK' _ _ ?_;clear hK' K')|fail);try refine zS ?_))|(refine zE ?_;refine hK _ _ ?_;clear hK K)|(refine zN ?_;try refine zS ?_)|refine zA ?_|(refine zB ?_;intro K hK)|(refine zC ?_ ?_<;>(try refine zH ?_)<;>intro hcond<;>try exact zX)|fail)
 ·have e : ¬ l = m := fun e => by subst e; omega
  simp [Rets, aret, Blk.cells, ty, Tryz.results38, ares, toT1, toT, borrow, borrow0, capCell, toTree0, tbool, e]
 ·have hlm : l.length = m.length := by omega
  refine AWp.loopS (α:=Nat) 26 (fun k=>[(0,.c (.slice (iRows l) .none)),(1,.c (.slice (iRows m) .none)),(12,.c (.int .i64 l.length)),(13,.c (.int .i64 (k : Int)))]) (fun k=>[]) (fun k=>k ≤ l.length ∧ ∀ j, j < k → l[j]? = m[j]?) (fun k=>l.length - k) (0) (hk:=Weak.headL 0 26 [0, 1, 12, 13] zW) (h0:=?_) (round:=fun k hI=>?_)
  ·exact ⟨Nat.zero_le _, fun j hj => by omega⟩
  ·obtain ⟨hk, hx⟩ := hI
   by_cases hlt : k < l.length
   ·have hlt2 : k < m.length := by omega
    have e1 := iRows_get (List.getElem?_eq_getElem hlt)
    have e2 := iRows_get (List.getElem?_eq_getElem hlt2)
    repeat' (first|((first|(refine zT ?_;intro K' hK')|(refine zG ?_ ?_<;>(try refine zH ?_)<;>intro hguard<;>(try exact zX)<;>try intro K' hK'))<;>((try simp +contextual only [go_sem, e1, e2, Int.toNat_natCast, Int.ofNat_lt]);(repeat' first|(with_reducible refine hK' _ _ ?_;clear hK' K')|exact zY|with_reducible refine And.intro ?_ ?_|(with_reducible intro hpath;try exact zP)|(refine hK' _ _ ?_;clear hK' K')|fail);try refine zS ?_))|(refine zE ?_;refine hK _ _ ?_;clear hK K)|(refine zN ?_;try refine zS ?_)|refine zA ?_|(refine zB ?_;intro K hK)|(refine zC ?_ ?_<;>(try refine zH ?_)<;>intro hcond<;>try exact zX)|fail)
    ·have e : ¬ l = m := fun e => by subst e; omega
     simp [Rets, aret, Blk.cells, ty, Tryz.results38, ares, toT1, toT, borrow, borrow0, capCell, toTree0, tbool, e]
    ·refine ⟨k + 1,Weak.headN 0 26 [0, 1, 12, 13] zW,?_,?_⟩
     ·refine ⟨hlt, fun j hj => ?_⟩
      by_cases hjk : j = k
      ·subst hjk; rw [List.getElem?_eq_getElem hlt, List.getElem?_eq_getElem hlt2]; congr 1
      ·exact hx j (by omega)
     ·omega
   ·have e : l = m := List.ext_getElem? fun j => by
     by_cases hj : j < l.length
     ·exact hx j (by omega)
     ·rw [List.getElem?_eq_none (by omega), List.getElem?_eq_none (by omega)]
    refine zR (zc @Int.ofNat_lt trivial) trivial trivial ?_
    simp [Rets, aret, Blk.cells, ty, Tryz.results38, ares, toT1, toT, borrow, borrow0, capCell, toTree0, tbool, e]
open Go.Sort (SWO)
instance : Inhabited E := ⟨⟨0, 0, 0⟩⟩
def cmpP (a b c d : Int) : Int := orI [cmpI a c, cmpI b d]
def cfE (x y : E) : Int := cmpP x.a x.b y.a y.b
theorem closE_ok (x y : E) : ACall Tryz.prog 138 [.agg (eRow x), .agg (eRow y)] (.t (.int .i64 (cfE x y))) := by
 refine ACall.of_body Tryz.func138 rfl (by kernel_rfl) ?_
 simp only [entry, Tryz.ntmps138, eRow]
 refine zU ?_
 repeat' (first|((first|(refine zT ?_;intro K' hK')|(refine zG ?_ ?_<;>(try refine zH ?_)<;>intro hguard<;>(try exact zX)<;>try intro K' hK'))<;>((try simp +contextual only [go_sem]);(repeat' first|(with_reducible refine hK' _ _ ?_;clear hK' K')|(with_reducible refine zK (compare_ok _ _ _ _) ?_;try simp +contextual only [go_sem])|exact zY|with_reducible refine And.intro ?_ ?_|(with_reducible intro hpath;try exact zP)|(refine hK' _ _ ?_;clear hK' K')|fail);try refine zS ?_))|(refine zE ?_;refine hK _ _ ?_;clear hK K)|(refine zN ?_;try refine zS ?_)|refine zA ?_|(refine zB ?_;intro K hK)|(refine zC ?_ ?_<;>(try refine zH ?_)<;>intro hcond<;>try exact zX)|fail)
 simp [Rets, aret, Blk.cells, ty, Tryz.results138, ares, toT1, toT, borrow, borrow0, capCell, toTree0, cfE, cmpP, tint]
theorem ltOf_cfE (x y : E) : Go.Proofs.ltOf cfE x y = true ↔ ltE x y := by
 unfold Go.Proofs.ltOf cfE cmpP orI orI cmpI ltE
 simp only [decide_eq_true_eq]
 (repeat' split) <;> simp_all [orI] <;> omega
theorem swoE : SWO (Go.Proofs.ltOf cfE) where
 irrefl x := by
  rw [← Bool.not_eq_true, ltOf_cfE]; unfold ltE; omega
 trans x y z h1 h2 := by
  rw [ltOf_cfE] at *; unfold ltE at *; omega
 ntrans x y z h1 h2 := by
  rw [← Bool.not_eq_true, ltOf_cfE] at *; unfold ltE at *; omega
noncomputable def sortE (es : List E) : List E := sortL cfE es
def neE (x y : E) : Prop := ¬ (x.a = y.a ∧ x.b = y.b)
theorem neE.symm {x y : E} (h : neE x y) : neE y x := by unfold neE at *; omega
def distinctE (es : List E) : Prop := es.Pairwise neE
theorem sortE_perm (es : List E) : (sortE es).Perm es := (sortL_spec swoE es).1
theorem sortE_sorted {es : List E} (h : distinctE es) : (sortE es).Pairwise ltE := by
 have h1 : distinctE (sortE es) := (List.Perm.pairwise_iff neE.symm (sortE_perm es)).2 h
 unfold distinctE at h1
 rw [List.pairwise_iff_getElem] at h1 ⊢
 intro i j hi hj hij
 have h2 := (sortL_spec swoE es).2 i j _ _ hij (List.getElem?_eq_getElem hi) (List.getElem?_eq_getElem hj)
 rw [← Bool.not_eq_true, ltOf_cfE] at h2
 have h3 := h1 i j hi hj hij
 unfold ltE neE at *
 simp only [sortE] at *
 omega
theorem sorted_unique {l l' : List E} (h : l.Pairwise ltE) (h' : l'.Pairwise ltE) (hp : l.Perm l') : l = l' :=
 List.Perm.eq_of_pairwise (le := ltE) (fun a b _ _ h1 h2 => by unfold ltE at *; omega) h h' hp
theorem sortE_eq {l es : List E} (h : l.Pairwise ltE) (hp : l.Perm es) : sortE es = l := by
 have hd : distinctE es := by
  refine (List.Perm.pairwise_iff neE.symm hp).1 ?_
  exact h.imp fun {x y} h => by unfold ltE at h; unfold neE; omega
 exact sorted_unique (sortE_sorted hd) h ((sortE_perm es).trans hp.symm)
theorem sortE_congr {l es : List E} (hd : distinctE es) (hp : l.Perm es) : sortE l = sortE es := by
 have hd' : distinctE l := (List.Perm.pairwise_iff neE.symm hp.symm).1 hd
 exact sorted_unique (sortE_sorted hd') (sortE_sorted hd) ((sortE_perm l).trans (hp.trans (sortE_perm es).symm))
end Go.Proofs.YtfkegnhpihoncaaGreat
namespace Go.Proofs.YtfkegnhpihoncaaGreat
open Go.Sp
def pC (l : List (Int × Int)) : List ACell := l.flatMap fun p => [.int .i64 p.1, .int .i64 p.2]
theorem pC_cons (p : Int × Int) (l : List (Int × Int)) : pC (p :: l) = .int .i64 p.1 :: .int .i64 p.2 :: pC l := rfl
theorem pC_len (l : List (Int × Int)) : (pC l).length = l.length * 2 := by
 induction l with
 | nil => rfl
 | cons p l ih => rw [pC_cons]; simp only [List.length_cons, ih]; omega
theorem pC_set : ∀ (l : List (Int × Int)) (i : Nat) (x y : Int), ((pC l).set (i * 2) (.int .i64 x)).set (i * 2 + 1) (.int .i64 y) = pC (l.set i (x, y)) := by
 intro l
 induction l with
 | nil => intro i x y; rfl
 | cons q l ih =>
  intro i x y
  cases i with
  | zero => rfl
  | succ i =>
   rw [show (i + 1) * 2 = i * 2 + 1 + 1 by omega, pC_cons]
   simp only [List.set_cons_succ, ih, pC_cons]
theorem pC_in {m : Nat} {l : List (Int × Int)} : blkIn m (.box (pC l)) := by
 intro c hc
 obtain ⟨p, _, hp⟩ := List.mem_flatMap.1 hc
 simp only [List.mem_cons, List.not_mem_nil, or_false] at hp
 rcases hp with rfl | rfl <;> exact True.intro
def pT (l : List (Int × Int)) : List Tree := l.flatMap fun p => [.int .i64 p.1, .int .i64 p.2]
theorem pC_trees (l : List (Int × Int)) : (pC l).mapM toTree0 = some (pT l) := by
 induction l with
 | nil => rfl
 | cons p l ih => rw [pC_cons]; simp [List.mapM_cons, toTree0, ih, pT]
theorem pRows_pre : ∀ (l : List (Int × Int)) (i : Nat) (r : List Tree) (m : Nat) (x : Tree), (pRows l)[i]? = some r → r[m]? = some x → (pT l)[i * 2 + m]? = some x := by
 intro l
 induction l with
 | nil => intro i r m x h; simp [pRows] at h
 | cons p l ih =>
  intro i r m x h1 h2
  have hm : m < 2 := by
   have h3 : r.length = 2 := pRows_k' (List.mem_of_getElem? h1)
   have := (List.getElem?_eq_some_iff.1 h2).1
   omega
  have e : pT (p :: l) = .int .i64 p.1 :: .int .i64 p.2 :: pT l := rfl
  cases i with
  | zero =>
   simp [pRows, pRow] at h1
   subst h1
   rw [e]
   match m, hm with
   | 0, _ => simpa using h2
   | 1, _ => simpa using h2
  | succ i =>
   rw [e, show (i + 1) * 2 + m = i * 2 + m + 1 + 1 by omega]
   simp only [List.getElem?_cons_succ]
   exact ih i r m x (by simpa [pRows] using h1) h2
end Go.Proofs.YtfkegnhpihoncaaGreat
