/- A part of the proof: contracts of functions of the program, and plain lemmas. -/
import Derived.Test.YtfkegnhpihoncaaGreatPart04
import Derived.Test.YtfkegnhpihoncaaGreatLayerC
import Derived.Test.YtfkegnhpihoncaaGreatPart02
import Derived.Shelf.SlSortCmp.WholeK
import Derived.Shelf.SlSortCmp.Whole1
import Derived.Shelf.Sort.Plain
import Derived.Ground.SlsfProg
import Derived.Ground.NamesProg
import Derived.Test.YtfkegnhpihoncaaGreatProg
import Derived.Shelf.SlSortCmp.NoneTotal
set_option linter.all false
namespace Go.Proofs.YtfkegnhpihoncaaGreat
open Go.Sp
set_option linter.unusedSimpArgs false
set_option linter.unusedVariables false
set_option maxHeartbeats 4000000
set_option maxRecDepth 100000
def iRows (l : List Int) : List (List Tree) := l.map fun x => [.int .i64 x]
def tints (l : List Int) : TVal := .t (.slice (iRows l))
attribute [go_sem] tints
theorem iRows_len (l : List Int) : (iRows l).length = l.length := by simp [iRows]
theorem iRows_get {l : List Int} {i : Nat} {x : Int} (h : l[i]? = some x) : (iRows l)[i]? = some [.int .i64 x] := by simp [iRows, h]
theorem iRows_k' {l : List Int} {r : List Tree} (h : r ∈ iRows l) : r.length = 1 := by
  obtain ⟨x, _, rfl⟩ := List.mem_map.1 h; rfl
theorem iRows_snoc (l : List Int) (a : Int) : iRows l ++ [[.int .i64 a]] = iRows (l ++ [a]) := by simp [iRows]
def idxI : List Int → Int → Int
  | [], _ => -1
  | x :: xs, v => if x = v then 0 else if idxI xs v < 0 then -1 else idxI xs v + 1
theorem idxI_ge (l : List Int) (v : Int) : -1 ≤ idxI l v := by
  induction l with
  | nil => simp [idxI]
  | cons x xs ih => simp only [idxI]; (repeat' split) <;> omega
theorem idxI_drop {l : List Int} {v : Int} : ∀ {k : Nat}, (∀ j, j < k → ∀ x, l[j]? = some x → x ≠ v) → k ≤ l.length → idxI l v = if idxI (l.drop k) v < 0 then -1 else idxI (l.drop k) v + k := by
  induction l with
  | nil => intro k _ hk; simp [idxI]
  | cons x xs ih =>
    intro k h hk
    cases k with
    | zero => have := idxI_ge (x :: xs) v; simp only [List.drop_zero, Int.natCast_zero]; split <;> omega
    | succ k =>
      have h0 := h 0 (by omega) x rfl
      have := ih (k := k) (fun j hj y hy => h (j + 1) (by omega) y (by simpa using hy)) (by simpa using hk)
      simp only [idxI, List.drop_succ_cons, if_neg h0, this]
      have h1 := idxI_ge (xs.drop k) v
      (repeat' split) <;> omega
theorem idxI_hit {l : List Int} {v : Int} {k : Nat} (h : ∀ j, j < k → ∀ x, l[j]? = some x → x ≠ v) (hk : k < l.length) (e : l[k] = v) : idxI l v = k := by
  rw [idxI_drop h (by omega), List.drop_eq_getElem_cons hk, idxI, if_pos e]; simp
theorem idxI_miss {l : List Int} {v : Int} (h : ∀ j, j < l.length → ∀ x, l[j]? = some x → x ≠ v) : idxI l v = -1 := by
  rw [idxI_drop h (Nat.le_refl _), List.drop_length]; simp [idxI]
theorem Index_ok (l : List Int) (v : Int) (hl : l.length < 2 ^ 40) : ACall Tryz.prog 104 [tints l, tint v] (tint (idxI l v)) := by
  refine ACall.of_body Tryz.func104 rfl (by kernel_rfl) ?_
  simp only [entry, Tryz.ntmps104, tints, tint]
  refine zU ?_
  refine zR (zc @iRows_len trivial) trivial trivial ?_
  refine AWp.loopS (α:=Nat) 19 (fun k=>[(0,.c (.slice (iRows l) .none)),(1,.c (.int .i64 v)),(7,.c (.int .i64 l.length)),(8,.c (.int .i64 (k : Int)))]) (fun k=>[]) (fun k=>k ≤ l.length ∧ ∀ j, j < k → ∀ x, l[j]? = some x → x ≠ v) (fun k=>l.length - k) (0) (hk:=Weak.headL 0 19 [0, 1, 7, 8] zW) (h0:=?_) (round:=fun k hI=>?_)
  · exact ⟨Nat.zero_le _, fun j hj => by omega⟩
  · obtain ⟨hk, hx⟩ := hI
    by_cases hlt : k < l.length
    · have e1 := iRows_get (List.getElem?_eq_getElem hlt)
      repeat' (first|((first|(refine zT ?_;intro K' hK')|(refine zG ?_ ?_<;>(try refine zH ?_)<;>intro hguard<;>(try exact zX)<;>try intro K' hK'))<;>((try simp +contextual only [go_sem, e1, Int.toNat_natCast, Int.ofNat_lt]);(repeat' first|(with_reducible refine hK' _ _ ?_;clear hK' K')|exact zY|with_reducible refine And.intro ?_ ?_|(with_reducible intro hpath;try exact zP)|(refine hK' _ _ ?_;clear hK' K')|fail);try refine zS ?_))|(refine zE ?_;refine hK _ _ ?_;clear hK K)|(refine zN ?_;try refine zS ?_)|refine zA ?_|(refine zB ?_;intro K hK)|(refine zC ?_ ?_<;>(try refine zH ?_)<;>intro hcond<;>try exact zX)|fail)
      · have hv : idxI l v = k := idxI_hit hx hlt (by omega)
        simp [Rets, aret, Blk.cells, ty, Tryz.results104, ares, toT1, toT, borrow, borrow0, capCell, toTree0, tint, hv]
      · refine ⟨k + 1,Weak.headN 0 19 [0, 1, 7, 8] zW,?_,?_⟩
        · refine ⟨hlt, fun j hj x hjx => ?_⟩
          by_cases hjk : j = k
          · subst hjk; rw [List.getElem?_eq_getElem hlt] at hjx; cases hjx; omega
          · exact hx j (by omega) x hjx
        · omega
    · have hv : idxI l v = -1 := idxI_miss (fun j hj => hx j (by omega))
      refine zR (zc @Int.ofNat_lt trivial) trivial trivial ?_
      simp [Rets, aret, Blk.cells, ty, Tryz.results104, ares, toT1, toT, borrow, borrow0, capCell, toTree0, tint, hv]
theorem idxI_mem (l : List Int) (v : Int) : 0 ≤ idxI l v ↔ v ∈ l := by
  induction l with
  | nil => simp [idxI]
  | cons x xs ih =>
    simp only [idxI, List.mem_cons]
    have h1 := idxI_ge xs v
    by_cases h : x = v
    · simp [h]
    · rw [if_neg h]
      have : ¬ v = x := fun e => h e.symm
      simp only [this, false_or, ← ih]
      split <;> omega
theorem Contains_ok (l : List Int) (v : Int) (hl : l.length < 2 ^ 40) : ACall Tryz.prog 81 [tints l, tint v] (tbool (decide (v ∈ l))) := by
  have e := idxI_mem l v
  refine ACall.of_body Tryz.func81 rfl (by kernel_rfl) ?_
  simp only [entry, Tryz.ntmps81, tints, tint]
  refine zU ?_
  refine zR trivial (zc (Index_ok l v hl) trivial) trivial ?_
  simp [Rets, aret, Blk.cells, ty, Tryz.results81, ares, toT1, toT, borrow, borrow0, capCell, toTree0, tbool, e]
theorem Equal_ok (l m : List Int) (hl : l.length < 2 ^ 40) (hm : m.length < 2 ^ 40) : ACall Tryz.prog 38 [tints l, tints m] (tbool (decide (l = m))) := by
  refine ACall.of_body Tryz.func38 rfl (by kernel_rfl) ?_
  simp only [entry, Tryz.ntmps38, tints]
  refine zU ?_
  repeat' (first|((first|(refine zT ?_;intro K' hK')|(refine zG ?_ ?_<;>(try refine zH ?_)<;>intro hguard<;>(try exact zX)<;>try intro K' hK'))<;>((try simp +contextual only [go_sem, iRows_len]);(repeat' first|(with_reducible refine hK' _ _ ?_;clear hK' K')|exact zY|with_reducible refine And.intro ?_ ?_|(with_reducible intro hpath;try exact zP)|(refine hK' _ _ ?_;clear hK' K')|fail);try refine zS ?_))|(refine zE ?_;refine hK _ _ ?_;clear hK K)|(refine zN ?_;try refine zS ?_)|refine zA ?_|(refine zB ?_;intro K hK)|(refine zC ?_ ?_<;>(try refine zH ?_)<;>intro hcond<;>try exact zX)|fail)
  · have e : ¬ l = m := fun e => by subst e; omega
    simp [Rets, aret, Blk.cells, ty, Tryz.results38, ares, toT1, toT, borrow, borrow0, capCell, toTree0, tbool, e]
  · have hlm : l.length = m.length := by omega
    refine AWp.loopS (α:=Nat) 26 (fun k=>[(0,.c (.slice (iRows l) .none)),(1,.c (.slice (iRows m) .none)),(12,.c (.int .i64 l.length)),(13,.c (.int .i64 (k : Int)))]) (fun k=>[]) (fun k=>k ≤ l.length ∧ ∀ j, j < k → l[j]? = m[j]?) (fun k=>l.length - k) (0) (hk:=Weak.headL 0 26 [0, 1, 12, 13] zW) (h0:=?_) (round:=fun k hI=>?_)
    · exact ⟨Nat.zero_le _, fun j hj => by omega⟩
    · obtain ⟨hk, hx⟩ := hI
      by_cases hlt : k < l.length
      · have hlt2 : k < m.length := by omega
        have e1 := iRows_get (List.getElem?_eq_getElem hlt)
        have e2 := iRows_get (List.getElem?_eq_getElem hlt2)
        repeat' (first|((first|(refine zT ?_;intro K' hK')|(refine zG ?_ ?_<;>(try refine zH ?_)<;>intro hguard<;>(try exact zX)<;>try intro K' hK'))<;>((try simp +contextual only [go_sem, e1, e2, Int.toNat_natCast, Int.ofNat_lt]);(repeat' first|(with_reducible refine hK' _ _ ?_;clear hK' K')|exact zY|with_reducible refine And.intro ?_ ?_|(with_reducible intro hpath;try exact zP)|(refine hK' _ _ ?_;clear hK' K')|fail);try refine zS ?_))|(refine zE ?_;refine hK _ _ ?_;clear hK K)|(refine zN ?_;try refine zS ?_)|refine zA ?_|(refine zB ?_;intro K hK)|(refine zC ?_ ?_<;>(try refine zH ?_)<;>intro hcond<;>try exact zX)|fail)
        · have e : ¬ l = m := fun e => by subst e; omega
          simp [Rets, aret, Blk.cells, ty, Tryz.results38, ares, toT1, toT, borrow, borrow0, capCell, toTree0, tbool, e]
        · refine ⟨k + 1,Weak.headN 0 26 [0, 1, 12, 13] zW,?_,?_⟩
          · refine ⟨hlt, fun j hj => ?_⟩
            by_cases hjk : j = k
            · subst hjk; rw [List.getElem?_eq_getElem hlt, List.getElem?_eq_getElem hlt2]; congr 1
            · exact hx j (by omega)
          · omega
      · have e : l = m := List.ext_getElem? fun j => by
          by_cases hj : j < l.length
          · exact hx j (by omega)
          · rw [List.getElem?_eq_none (by omega), List.getElem?_eq_none (by omega)]
        refine zR (zc @Int.ofNat_lt trivial) trivial trivial ?_
        simp [Rets, aret, Blk.cells, ty, Tryz.results38, ares, toT1, toT, borrow, borrow0, capCell, toTree0, tbool, e]
end Go.Proofs.YtfkegnhpihoncaaGreat
set_option linter.all false
namespace Go.Proofs.YtfkegnhpihoncaaGreat
open Go.Sp
set_option linter.unusedSimpArgs false
set_option linter.unusedVariables false
set_option maxHeartbeats 4000000
set_option maxRecDepth 100000
def atE (g : G) (vs : List Int) : Int := if checkG g ≠ 0 then checkG g else if ∀ v, v ∈ vs → 0 ≤ v ∧ v < g.n then 0 else 2
def valL (v : Int) : List E → Int
  | [] => 0
  | x :: xs => (if x.a ≠ x.b ∧ (x.a = v ∨ x.b = v) then x.m else 0) + valL v xs
end Go.Proofs.YtfkegnhpihoncaaGreat
set_option linter.all false
namespace Go.Proofs.YtfkegnhpihoncaaGreat
open Go.Sp
theorem ktPair : Tryz.prog.keyTypeAt 3 121 = true := by kernel_rfl
theorem tlPair : Tryz.prog.tiled 3 121 = true := by kernel_rfl
theorem widePair : (match Tryz.prog.underlying 121 with | some (.array _ _) | some (.struct _) => true | _ => false) = true := by kernel_rfl
noncomputable def fld0 : Field := (Tryz.prog.fieldsOf 121)[0]!
noncomputable def fld1 : Field := (Tryz.prog.fieldsOf 121)[1]!
set_option maxRecDepth 100000 in
theorem klPair : KeyLaw Tryz.prog 121 (.ints 2) :=
  keyLaw_ints (m := 3) (by decide) ktPair tlPair widePair (intsKey2 (f0 := fld0) (f1 := fld1) (it := 3) (by kernel_rfl) (by kernel_rfl) (by kernel_rfl) (by kernel_rfl) (by kernel_rfl) (by kernel_rfl) (by kernel_rfl) (by kernel_rfl) (by kernel_rfl) (by kernel_rfl) (by kernel_rfl) (of_decide_eq_true (by kernel_rfl : decide (0 < Tryz.prog.types.size) = true)))
theorem klInt : KeyLaw Tryz.prog 3 .int := keyLaw_int Tryz.underlying3
end Go.Proofs.YtfkegnhpihoncaaGreat
set_option linter.all false
namespace Go.Proofs.YtfkegnhpihoncaaGreat
open Go.Sp
open Go.Sort (SWO)
set_option linter.unusedSimpArgs false
set_option linter.unusedVariables false
set_option maxHeartbeats 4000000
set_option maxRecDepth 100000
instance : Inhabited E := ⟨⟨0, 0, 0⟩⟩
def tE (e : E) : TVal := .agg (eRow e)
def cmpP (a b c d : Int) : Int := orI [cmpI a c, cmpI b d]
def cfE (x y : E) : Int := cmpP x.a x.b y.a y.b
theorem closE_ok (x y : E) : ACall Tryz.prog 138 [.agg (eRow x), .agg (eRow y)] (.t (.int .i64 (cfE x y))) := by
  refine ACall.of_body Tryz.func138 rfl (by kernel_rfl) ?_
  simp only [entry, Tryz.ntmps138, eRow]
  refine zU ?_
  repeat' (first|((first|(refine zT ?_;intro K' hK')|(refine zG ?_ ?_<;>(try refine zH ?_)<;>intro hguard<;>(try exact zX)<;>try intro K' hK'))<;>((try simp +contextual only [go_sem]);(repeat' first|(with_reducible refine hK' _ _ ?_;clear hK' K')|(with_reducible refine zK (compare_ok _ _ _ _) ?_;try simp +contextual only [go_sem])|exact zY|with_reducible refine And.intro ?_ ?_|(with_reducible intro hpath;try exact zP)|(refine hK' _ _ ?_;clear hK' K')|fail);try refine zS ?_))|(refine zE ?_;refine hK _ _ ?_;clear hK K)|(refine zN ?_;try refine zS ?_)|refine zA ?_|(refine zB ?_;intro K hK)|(refine zC ?_ ?_<;>(try refine zH ?_)<;>intro hcond<;>try exact zX)|fail)
  simp [Rets, aret, Blk.cells, ty, Tryz.results138, ares, toT1, toT, borrow, borrow0, capCell, toTree0, cfE, cmpP, tint]
theorem ltOf_cfE (x y : E) : Go.Proofs.ltOf cfE x y = true ↔ ltE x y := by
  unfold Go.Proofs.ltOf cfE cmpP orI orI cmpI ltE
  simp only [decide_eq_true_eq]
  (repeat' split) <;> simp_all [orI] <;> omega
theorem swoE : SWO (Go.Proofs.ltOf cfE) where
  irrefl x := by
    rw [← Bool.not_eq_true, ltOf_cfE]; unfold ltE; omega
  trans x y z h1 h2 := by
    rw [ltOf_cfE] at *; unfold ltE at *; omega
  ntrans x y z h1 h2 := by
    rw [← Bool.not_eq_true, ltOf_cfE] at *; unfold ltE at *; omega
noncomputable def sortE (es : List E) : List E := sortL cfE es
def neE (x y : E) : Prop := ¬ (x.a = y.a ∧ x.b = y.b)
theorem neE.symm {x y : E} (h : neE x y) : neE y x := by unfold neE at *; omega
def distinctE (es : List E) : Prop := es.Pairwise neE
theorem sortE_perm (es : List E) : (sortE es).Perm es := (sortL_spec swoE es).1
theorem sortE_sorted {es : List E} (h : distinctE es) : (sortE es).Pairwise ltE := by
  have h1 : distinctE (sortE es) := (List.Perm.pairwise_iff neE.symm (sortE_perm es)).2 h
  unfold distinctE at h1
  rw [List.pairwise_iff_getElem] at h1 ⊢
  intro i j hi hj hij
  have h2 := (sortL_spec swoE es).2 i j _ _ hij (List.getElem?_eq_getElem hi) (List.getElem?_eq_getElem hj)
  rw [← Bool.not_eq_true, ltOf_cfE] at h2
  have h3 := h1 i j hi hj hij
  unfold ltE neE at *
  simp only [sortE] at *
  omega
theorem sorted_unique {l l' : List E} (h : l.Pairwise ltE) (h' : l'.Pairwise ltE) (hp : l.Perm l') : l = l' :=
  List.Perm.eq_of_pairwise (le := ltE) (fun a b _ _ h1 h2 => by unfold ltE at *; omega) h h' hp
theorem sortE_eq {l es : List E} (h : l.Pairwise ltE) (hp : l.Perm es) : sortE es = l := by
  have hd : distinctE es := by
    refine (List.Perm.pairwise_iff neE.symm hp).1 ?_
    exact h.imp fun {x y} h => by unfold ltE at h; unfold neE; omega
  exact sorted_unique (sortE_sorted hd) h ((sortE_perm es).trans hp.symm)
theorem sortE_congr {l es : List E} (hd : distinctE es) (hp : l.Perm es) : sortE l = sortE es := by
  have hd' : distinctE l := (List.Perm.pairwise_iff neE.symm hp.symm).1 hd
  exact sorted_unique (sortE_sorted hd') (sortE_sorted hd) ((sortE_perm l).trans (hp.trans (sortE_perm es).symm))
end Go.Proofs.YtfkegnhpihoncaaGreat
set_option linter.all false
namespace Go.Proofs
open Go.Shelf
def YtfkegnhpihoncaaGreat.laySortE_ren : Go.Shelf.Ren := ⟨fun | 6 => 137 | 15 => 79 | 14 => 163 | 28 => 120 | 29 => 121 | 20 => 177 | 21 => 178 | 22 => 179 | 23 => 180 | 24 => 181 | 25 => 182 | 26 => 183 | 27 => 184 | 46 => 191 | 47 => 147 | 48 => 148 | 49 => 192 | 50 => 193 | 57 => 195 | n => n, fun | 22 => 22 | 24 => 76 | 25 => 163 | 3 => 3 | 39 => 105 | 0 => 0 | 53 => 143 | 55 => 145 | 4 => 4 | 46 => 136 | 45 => 135 | 50 => 140 | 5 => 5 | 9 => 9 | 66 => 169 | 70 => 173 | 76 => 198 | 77 => 199 | n => n, fun | n => n⟩
theorem YtfkegnhpihoncaaGreat.laySortE : Go.Proofs.SlLaysF0.n6 Tryz.prog YtfkegnhpihoncaaGreat.laySortE_ren := {
  mixed := by kernel_rfl
  f6 := ⟨Tryz.f137.name, by decide, Tryz.func137.trans (congrArg some (by kernel_rfl))⟩
  f14 := ⟨Tryz.f163.name, by decide, Tryz.func163.trans (congrArg some (by kernel_rfl))⟩
  f15 := Tryz.func79.trans (congrArg some (by kernel_rfl))
  f20 := ⟨Tryz.f177.name, by decide, Tryz.func177.trans (congrArg some (by kernel_rfl))⟩
  f21 := ⟨Tryz.f178.name, by decide, Tryz.func178.trans (congrArg some (by kernel_rfl))⟩
  f22 := ⟨Tryz.f179.name, by decide, Tryz.func179.trans (congrArg some (by kernel_rfl))⟩
  f23 := ⟨Tryz.f180.name, by decide, Tryz.func180.trans (congrArg some (by kernel_rfl))⟩
  f24 := ⟨Tryz.f181.name, by decide, Tryz.func181.trans (congrArg some (by kernel_rfl))⟩
  f25 := ⟨Tryz.f182.name, by decide, Tryz.func182.trans (congrArg some (by kernel_rfl))⟩
  f26 := ⟨Tryz.f183.name, by decide, Tryz.func183.trans (congrArg some (by kernel_rfl))⟩
  f27 := ⟨Tryz.f184.name, by decide, Tryz.func184.trans (congrArg some (by kernel_rfl))⟩
  f28 := Tryz.func120.trans (congrArg some (by kernel_rfl))
  f29 := Tryz.func121.trans (congrArg some (by kernel_rfl))
  f46 := ⟨Tryz.f191.name, by decide, Tryz.func191.trans (congrArg some (by kernel_rfl))⟩
  f47 := Tryz.func147.trans (congrArg some (by kernel_rfl))
  f48 := Tryz.func148.trans (congrArg some (by kernel_rfl))
  f49 := ⟨Tryz.f192.name, by decide, Tryz.func192.trans (congrArg some (by kernel_rfl))⟩
  f50 := ⟨Tryz.f193.name, by decide, Tryz.func193.trans (congrArg some (by kernel_rfl))⟩
  f57 := ⟨Tryz.f195.name, by decide, Tryz.func195.trans (congrArg some (by kernel_rfl))⟩
  t0 := Tryz.underlying0
  a0 := Tryz.isAgg0
  z0 := Tryz.sizeOf0
  v0 := Tryz.zeroValue0
  t3 := Tryz.underlying3
  a3 := Tryz.isAgg3
  z3 := Tryz.sizeOf3
  v3 := Tryz.zeroValue3
  t4 := Tryz.underlying4
  a4 := Tryz.isAgg4
  z4 := Tryz.sizeOf4
  v4 := Tryz.zeroValue4
  t5 := Tryz.underlying5
  a5 := Tryz.isAgg5
  z5 := Tryz.sizeOf5
  v5 := Tryz.zeroValue5
  t9 := Tryz.underlying9
  a9 := Tryz.isAgg9
  z9 := Tryz.sizeOf9
  v9 := Tryz.zeroValue9
  t22 := Tryz.underlying22
  a22 := Tryz.isAgg22
  z22 := Tryz.sizeOf22
  v22 := Tryz.zeroValue22
  t25 := Tryz.underlying163
  a25 := Tryz.isAgg163
  z25 := Tryz.sizeOf163
  v25 := Tryz.zeroValue163
  t39 := Tryz.underlying105
  a39 := Tryz.isAgg105
  z39 := Tryz.sizeOf105
  v39 := Tryz.zeroValue105
  t45 := Tryz.underlying135
  a45 := Tryz.isAgg135
  z45 := Tryz.sizeOf135
  v45 := Tryz.zeroValue135
  t46 := Tryz.underlying136
  a46 := Tryz.isAgg136
  z46 := Tryz.sizeOf136
  v46 := Tryz.zeroValue136
  t50 := Tryz.underlying140
  a50 := Tryz.isAgg140
  z50 := Tryz.sizeOf140
  v50 := Tryz.zeroValue140
  t53 := Tryz.underlying143
  a53 := Tryz.isAgg143
  z53 := Tryz.sizeOf143
  v53 := Tryz.zeroValue143
  t55 := Tryz.underlying145
  a55 := Tryz.isAgg145
  z55 := Tryz.sizeOf145
  v55 := Tryz.zeroValue145
  t66 := Tryz.underlying169
  a66 := Tryz.isAgg169
  z66 := Tryz.sizeOf169
  v66 := Tryz.zeroValue169
  t70 := Tryz.underlying173
  a70 := Tryz.isAgg173
  z70 := Tryz.sizeOf173
  v70 := Tryz.zeroValue173
  t76 := Tryz.underlying198
  a76 := Tryz.isAgg198
  z76 := Tryz.sizeOf198
  v76 := Tryz.zeroValue198
  t77 := Tryz.underlying199
  a77 := Tryz.isAgg199
  z77 := Tryz.sizeOf199
  v77 := Tryz.zeroValue199 }
def YtfkegnhpihoncaaGreat.laySortI_ren : Go.Shelf.Ren := ⟨fun | 189 => 37 | 125 => 79 | 257 => 78 | 128 => 120 | 129 => 121 | 294 => 111 | 295 => 112 | 296 => 113 | 297 => 114 | 298 => 115 | 299 => 116 | 216 => 117 | 300 => 118 | 301 => 119 | 328 => 146 | 329 => 147 | 330 => 148 | 331 => 149 | 332 => 150 | 215 => 141 | 343 => 175 | n => n, fun | 28 => 40 | 3 => 3 | 46 => 105 | 0 => 0 | 51 => 143 | 53 => 145 | 4 => 4 | 183 => 136 | 182 => 135 | 131 => 140 | 5 => 5 | 9 => 9 | 218 => 169 | 222 => 173 | 228 => 198 | 229 => 199 | n => n, fun | n => n⟩
def YtfkegnhpihoncaaGreat.laySortC_ren : Go.Shelf.Ren := ⟨fun | 6 => 100 | 15 => 79 | 14 => 140 | 28 => 120 | 29 => 121 | 20 => 164 | 21 => 165 | 22 => 166 | 23 => 167 | 24 => 168 | 25 => 169 | 26 => 170 | 27 => 171 | 46 => 185 | 47 => 147 | 48 => 148 | 49 => 186 | 50 => 187 | 57 => 194 | n => n, fun | 22 => 40 | 24 => 3 | 25 => 126 | 3 => 3 | 39 => 105 | 0 => 0 | 53 => 143 | 55 => 145 | 4 => 4 | 46 => 136 | 45 => 135 | 50 => 140 | 5 => 5 | 9 => 9 | 66 => 169 | 70 => 173 | 76 => 198 | 77 => 199 | n => n, fun | n => n⟩
theorem YtfkegnhpihoncaaGreat.laySortC : Go.Proofs.SlLaysF.n6 Tryz.prog YtfkegnhpihoncaaGreat.laySortC_ren := {
  mixed := by kernel_rfl
  f6 := ⟨Tryz.f100.name, by decide, Tryz.func100.trans (congrArg some (by kernel_rfl))⟩
  f14 := ⟨Tryz.f140.name, by decide, Tryz.func140.trans (congrArg some (by kernel_rfl))⟩
  f15 := Tryz.func79.trans (congrArg some (by kernel_rfl))
  f20 := ⟨Tryz.f164.name, by decide, Tryz.func164.trans (congrArg some (by kernel_rfl))⟩
  f21 := ⟨Tryz.f165.name, by decide, Tryz.func165.trans (congrArg some (by kernel_rfl))⟩
  f22 := ⟨Tryz.f166.name, by decide, Tryz.func166.trans (congrArg some (by kernel_rfl))⟩
  f23 := ⟨Tryz.f167.name, by decide, Tryz.func167.trans (congrArg some (by kernel_rfl))⟩
  f24 := ⟨Tryz.f168.name, by decide, Tryz.func168.trans (congrArg some (by kernel_rfl))⟩
  f25 := ⟨Tryz.f169.name, by decide, Tryz.func169.trans (congrArg some (by kernel_rfl))⟩
  f26 := ⟨Tryz.f170.name, by decide, Tryz.func170.trans (congrArg some (by kernel_rfl))⟩
  f27 := ⟨Tryz.f171.name, by decide, Tryz.func171.trans (congrArg some (by kernel_rfl))⟩
  f28 := Tryz.func120.trans (congrArg some (by kernel_rfl))
  f29 := Tryz.func121.trans (congrArg some (by kernel_rfl))
  f46 := ⟨Tryz.f185.name, by decide, Tryz.func185.trans (congrArg some (by kernel_rfl))⟩
  f47 := Tryz.func147.trans (congrArg some (by kernel_rfl))
  f48 := Tryz.func148.trans (congrArg some (by kernel_rfl))
  f49 := ⟨Tryz.f186.name, by decide, Tryz.func186.trans (congrArg some (by kernel_rfl))⟩
  f50 := ⟨Tryz.f187.name, by decide, Tryz.func187.trans (congrArg some (by kernel_rfl))⟩
  f57 := ⟨Tryz.f194.name, by decide, Tryz.func194.trans (congrArg some (by kernel_rfl))⟩
  t0 := Tryz.underlying0
  a0 := Tryz.isAgg0
  z0 := Tryz.sizeOf0
  v0 := Tryz.zeroValue0
  t3 := Tryz.underlying3
  a3 := Tryz.isAgg3
  z3 := Tryz.sizeOf3
  v3 := Tryz.zeroValue3
  t4 := Tryz.underlying4
  a4 := Tryz.isAgg4
  z4 := Tryz.sizeOf4
  v4 := Tryz.zeroValue4
  t5 := Tryz.underlying5
  a5 := Tryz.isAgg5
  z5 := Tryz.sizeOf5
  v5 := Tryz.zeroValue5
  t9 := Tryz.underlying9
  a9 := Tryz.isAgg9
  z9 := Tryz.sizeOf9
  v9 := Tryz.zeroValue9
  t22 := Tryz.underlying40
  a22 := Tryz.isAgg40
  z22 := Tryz.sizeOf40
  v22 := Tryz.zeroValue40
  a24 := Tryz.isAgg3
  z24 := Tryz.sizeOf3
  t25 := Tryz.underlying126
  a25 := Tryz.isAgg126
  z25 := Tryz.sizeOf126
  v25 := Tryz.zeroValue126
  t39 := Tryz.underlying105
  a39 := Tryz.isAgg105
  z39 := Tryz.sizeOf105
  v39 := Tryz.zeroValue105
  t45 := Tryz.underlying135
  a45 := Tryz.isAgg135
  z45 := Tryz.sizeOf135
  v45 := Tryz.zeroValue135
  t46 := Tryz.underlying136
  a46 := Tryz.isAgg136
  z46 := Tryz.sizeOf136
  v46 := Tryz.zeroValue136
  t50 := Tryz.underlying140
  a50 := Tryz.isAgg140
  z50 := Tryz.sizeOf140
  v50 := Tryz.zeroValue140
  t53 := Tryz.underlying143
  a53 := Tryz.isAgg143
  z53 := Tryz.sizeOf143
  v53 := Tryz.zeroValue143
  t55 := Tryz.underlying145
  a55 := Tryz.isAgg145
  z55 := Tryz.sizeOf145
  v55 := Tryz.zeroValue145
  t66 := Tryz.underlying169
  a66 := Tryz.isAgg169
  z66 := Tryz.sizeOf169
  v66 := Tryz.zeroValue169
  t70 := Tryz.underlying173
  a70 := Tryz.isAgg173
  z70 := Tryz.sizeOf173
  v70 := Tryz.zeroValue173
  t76 := Tryz.underlying198
  a76 := Tryz.isAgg198
  z76 := Tryz.sizeOf198
  v76 := Tryz.zeroValue198
  t77 := Tryz.underlying199
  a77 := Tryz.isAgg199
  z77 := Tryz.sizeOf199
  v77 := Tryz.zeroValue199 }
end Go.Proofs
set_option linter.all false
namespace Go.Proofs.YtfkegnhpihoncaaGreat
open Go.Sp Go.RowKit
set_option linter.unusedSimpArgs false
set_option linter.unusedVariables false
set_option maxHeartbeats 4000000
set_option maxRecDepth 100000
theorem agg71 : ∀ w, (isAgg 76).run Tryz.prog w = .ok true w := fun w => by
  have h : tAgg Tryz.prog 76 = some true := by simp only [ty]
  simp [run_tAgg h]
theorem size71 : ∀ w, (Go.sizeOf 76).run Tryz.prog w = .ok 3 w := fun w => by
  have h : tSize Tryz.prog 76 = some 3 := by simp only [ty]
  exact run_tSize h w
theorem enter77 : ∀ args w, (callFunc 137 args).run Tryz.prog w = .ok (.enter 137 args) w := Go.Proofs.enters_of Tryz.func137 (by kernel_rfl) rfl
theorem eRow_flat (e : E) : flatRow (eRow e) = true := rfl
theorem SortE_ok (es : List E) (hl : es.length < 2 ^ 60) {H : List Blk} {id cap : Nat} (hid : H[id]? = some (.box (flatRows (eRows es)))) :
    ACallH Tryz.prog 137 H [.c (.ref id 3 0 es.length cap), .c (.fn 138 [])] (H.set id (.box (flatRows (eRows (sortE es))))) (.tup []) :=
  SortFunc_call laySortE eRow 3 agg71 size71 (fun _ => rfl) eRow_flat cfE swoE 138 closE_ok enter77 es (by omega) hid
theorem SortE_none : ACall Tryz.prog 137 [.t (.slice []), .t (.fn 138 [])] (.tup []) := by
  refine ⟨enter77, fun S w vs hl hv => ?_⟩
  match vs, hl with
  | [v0, v1], _ =>
  have h0 : TRel S w (.slice []) v0 := hv 0 _ v0 rfl rfl
  have key : ∀ a c, Calls Tryz.prog 137 #[.slice a 0 c, v1] w fun e w' => ∃ v, e = .returned v ∧ TVRel (fun b o => S b o ∨ w.heap.size ≤ b) w' (.tup []) v ∧ Below w.heap.size w w' ∧ w.drawn ≤ w'.drawn := fun a c => by
    refine (Go.Proofs.AnyF.slices_SortFunc_none laySortE a c v1 w).mono ?_
    rintro e w' ⟨rfl, rfl⟩
    exact ⟨_, rfl, ⟨#[], rfl, rfl, by simp⟩, Below.refl _ _, Nat.le_refl _⟩
  cases h0 with
  | nil a c => exact key a c
  | slice b off k c rows cell hn hk hc hr => exact key _ c
end Go.Proofs.YtfkegnhpihoncaaGreat
