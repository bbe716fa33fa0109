/- A part of the proof. -/
import Derived.Test.YtgklecfiflhjmaaPart04
import Derived.Test.YtgklecfiflhjmaaPart02
import Derived.Test.YtgklecfiflhjmaaLayerC
import Derived.Test.YtgklecfiflhjmaaPart01
import Derived.Shelf.SlSortCmp.NoneTotal
import Derived.Test.YtgklecfiflhjmaaSpOpen
import Derived.Test.YtgklecfiflhjmaaRows
import Derived.WalkKit
import Derived.ProofKit
import Derived.OpenShut
import Derived.ShutString
import Derived.ChangeOld
import Derived.Below
import Derived.Lib.SmallJoins
set_option linter.all false
set_option maxHeartbeats 4000000
set_option maxRecDepth 100000
namespace Go.Proofs.Ytgklecfiflhjmaa
open Go.Sp
def iRows (l : List Int) : List (List Tree) := l.map fun x => [.int .i64 x]
def tints (l : List Int) : TVal := .t (.slice (iRows l))
attribute [go_sem] tints
theorem iRows_len (l : List Int) : (iRows l).length = l.length := by simp [iRows]
theorem iRows_get {l : List Int} {i : Nat} {x : Int} (h : l[i]? = some x) : (iRows l)[i]? = some [.int .i64 x] := by simp [iRows, h]
theorem iRows_k' {l : List Int} {r : List Tree} (h : r ∈ iRows l) : r.length = 1 := by
 obtain ⟨x, _, rfl⟩ := List.mem_map.1 h; rfl
theorem iRows_snoc (l : List Int) (a : Int) : iRows l ++ [[.int .i64 a]] = iRows (l ++ [a]) := by simp [iRows]
theorem Size_ok (g : G) (hl : g.es.length < 2 ^ 30) : ACall Try.prog 69 [tG g] (.tup [tint (if checkG g ≠ 0 then 0 else (endsL g.es).length), tint (checkG g)]) := by
 have h := Ends_ok g hl
 by_cases hc : checkG g ≠ 0
 ·rw [if_pos hc] at h ⊢
  refine ACall.of_body Try.func69 rfl (by kernel_rfl) ?_
  simp only [entry, Try.ntmps69, tG]
  refine zU ?_
  refine zR trivial (zc h trivial) trivial ?_
  simp [Rets, aret, Blk.cells, ty, Try.results69, ares, toT1, toT, borrow, borrow0, capCell, toTree0, tint]
 ·rw [if_neg hc] at h ⊢
  refine ACall.of_body Try.func69 rfl (by kernel_rfl) ?_
  simp only [entry, Try.ntmps69, tG]
  refine zU ?_
  refine zR (zc @pRows_len trivial) (zc h trivial) trivial ?_
  have e : checkG g = 0 := by omega
  simp [Rets, aret, Blk.cells, ty, Try.results69, ares, toT1, toT, borrow, borrow0, capCell, toTree0, tint, e]
def idxI : List Int → Int → Int
 | [], _ => -1
 | x :: xs, v => if x = v then 0 else if idxI xs v < 0 then -1 else idxI xs v + 1
theorem idxI_ge (l : List Int) (v : Int) : -1 ≤ idxI l v := by
 induction l with
 | nil => simp [idxI]
 | cons x xs ih => simp only [idxI]; (repeat' split) <;> omega
theorem idxI_drop {l : List Int} {v : Int} : ∀ {k : Nat}, (∀ j, j < k → ∀ x, l[j]? = some x → x ≠ v) → k ≤ l.length → idxI l v = if idxI (l.drop k) v < 0 then -1 else idxI (l.drop k) v + k := by
 induction l with
 | nil => intro k _ hk; simp [idxI]
 | cons x xs ih =>
  intro k h hk
  cases k with
  | zero => have := idxI_ge (x :: xs) v; simp only [List.drop_zero, Int.natCast_zero]; split <;> omega
  | succ k =>
   have h0 := h 0 (by omega) x rfl
   have := ih (k := k) (fun j hj y hy => h (j + 1) (by omega) y (by simpa using hy)) (by simpa using hk)
   simp only [idxI, List.drop_succ_cons, if_neg h0, this]
   have h1 := idxI_ge (xs.drop k) v
   (repeat' split) <;> omega
theorem idxI_hit {l : List Int} {v : Int} {k : Nat} (h : ∀ j, j < k → ∀ x, l[j]? = some x → x ≠ v) (hk : k < l.length) (e : l[k] = v) : idxI l v = k := by
 rw [idxI_drop h (by omega), List.drop_eq_getElem_cons hk, idxI, if_pos e]; simp
theorem idxI_miss {l : List Int} {v : Int} (h : ∀ j, j < l.length → ∀ x, l[j]? = some x → x ≠ v) : idxI l v = -1 := by
 rw [idxI_drop h (Nat.le_refl _), List.drop_length]; simp [idxI]
theorem Index_ok (l : List Int) (v : Int) (hl : l.length < 2 ^ 40) : ACall Try.prog 66 [tints l, tint v] (tint (idxI l v)) := by
 refine ACall.of_body Try.func66 rfl (by kernel_rfl) ?_
 simp only [entry, Try.ntmps66, tints, tint]
 refine zU ?_
 refine zR (zc @iRows_len trivial) trivial trivial ?_
 refine AWp.loopS (α:=Nat) 19 (fun k=>[(0,.c (.slice (iRows l) .none)),(1,.c (.int .i64 v)),(7,.c (.int .i64 l.length)),(8,.c (.int .i64 (k : Int)))]) (fun k=>[]) (fun k=>k ≤ l.length ∧ ∀ j, j < k → ∀ x, l[j]? = some x → x ≠ v) (fun k=>l.length - k) (0) (hk:=Weak.headL 0 19 [0, 1, 7, 8] zW) (h0:=?_) (round:=fun k hI=>?_)
 ·exact ⟨Nat.zero_le _, fun j hj => by omega⟩
 ·obtain ⟨hk, hx⟩ := hI
  by_cases hlt : k < l.length
  ·have e1 := iRows_get (List.getElem?_eq_getElem hlt)
   repeat' (first|((first|(refine zT ?_;intro K' hK')|(refine zG ?_ ?_<;>(try refine zH ?_)<;>intro hguard<;>(try exact zX)<;>try intro K' hK'))<;>((try simp +contextual only [go_sem, e1, Int.toNat_natCast, Int.ofNat_lt]);(repeat' first|(with_reducible refine hK' _ _ ?_;clear hK' K')|exact zY|with_reducible refine And.intro ?_ ?_|(with_reducible intro hpath;try exact zP)|(refine hK' _ _ ?_;clear hK' K')|fail);try refine zS ?_))|(refine zE ?_;refine hK _ _ ?_;clear hK K)|(refine zN ?_;try refine zS ?_)|refine zA ?_|(refine zB ?_;intro K hK)|(refine zC ?_ ?_<;>(try refine zH ?_)<;>intro hcond<;>try exact zX)|fail)
   ·have hv : idxI l v = k := idxI_hit hx hlt (by omega)
    simp [Rets, aret, Blk.cells, ty, Try.results66, ares, toT1, toT, borrow, borrow0, capCell, toTree0, tint, hv]
   ·refine ⟨k + 1,Weak.headN 0 19 [0, 1, 7, 8] zW,?_,?_⟩
    ·refine ⟨hlt, fun j hj x hjx => ?_⟩
     by_cases hjk : j = k
     ·subst hjk; rw [List.getElem?_eq_getElem hlt] at hjx; cases hjx; omega
     ·exact hx j (by omega) x hjx
    ·omega
  ·have hv : idxI l v = -1 := idxI_miss (fun j hj => hx j (by omega))
   refine zR (zc @Int.ofNat_lt trivial) trivial trivial ?_
   simp [Rets, aret, Blk.cells, ty, Try.results66, ares, toT1, toT, borrow, borrow0, capCell, toTree0, tint, hv]
theorem idxI_mem (l : List Int) (v : Int) : 0 ≤ idxI l v ↔ v ∈ l := by
 induction l with
 | nil => simp [idxI]
 | cons x xs ih =>
  simp only [idxI, List.mem_cons]
  have h1 := idxI_ge xs v
  by_cases h : x = v
  ·simp [h]
  ·rw [if_neg h]
   have : ¬ v = x := fun e => h e.symm
   simp only [this, false_or, ← ih]
   split <;> omega
theorem Contains_ok (l : List Int) (v : Int) (hl : l.length < 2 ^ 40) : ACall Try.prog 28 [tints l, tint v] (tbool (decide (v ∈ l))) := by
 have e := idxI_mem l v
 refine ACall.of_body Try.func28 rfl (by kernel_rfl) ?_
 simp only [entry, Try.ntmps28, tints, tint]
 refine zU ?_
 refine zR trivial (zc (Index_ok l v hl) trivial) trivial ?_
 simp [Rets, aret, Blk.cells, ty, Try.results28, ares, toT1, toT, borrow, borrow0, capCell, toTree0, tbool, e]
theorem Equal_ok (l m : List Int) (hl : l.length < 2 ^ 40) (hm : m.length < 2 ^ 40) : ACall Try.prog 15 [tints l, tints m] (tbool (decide (l = m))) := by
 refine ACall.of_body Try.func15 rfl (by kernel_rfl) ?_
 simp only [entry, Try.ntmps15, tints]
 refine zU ?_
 repeat' (first|((first|(refine zT ?_;intro K' hK')|(refine zG ?_ ?_<;>(try refine zH ?_)<;>intro hguard<;>(try exact zX)<;>try intro K' hK'))<;>((try simp +contextual only [go_sem, iRows_len]);(repeat' first|(with_reducible refine hK' _ _ ?_;clear hK' K')|exact zY|with_reducible refine And.intro ?_ ?_|(with_reducible intro hpath;try exact zP)|(refine hK' _ _ ?_;clear hK' K')|fail);try refine zS ?_))|(refine zE ?_;refine hK _ _ ?_;clear hK K)|(refine zN ?_;try refine zS ?_)|refine zA ?_|(refine zB ?_;intro K hK)|(refine zC ?_ ?_<;>(try refine zH ?_)<;>intro hcond<;>try exact zX)|fail)
 ·have e : ¬ l = m := fun e => by subst e; omega
  simp [Rets, aret, Blk.cells, ty, Try.results15, ares, toT1, toT, borrow, borrow0, capCell, toTree0, tbool, e]
 ·have hlm : l.length = m.length := by omega
  refine AWp.loopS (α:=Nat) 26 (fun k=>[(0,.c (.slice (iRows l) .none)),(1,.c (.slice (iRows m) .none)),(12,.c (.int .i64 l.length)),(13,.c (.int .i64 (k : Int)))]) (fun k=>[]) (fun k=>k ≤ l.length ∧ ∀ j, j < k → l[j]? = m[j]?) (fun k=>l.length - k) (0) (hk:=Weak.headL 0 26 [0, 1, 12, 13] zW) (h0:=?_) (round:=fun k hI=>?_)
  ·exact ⟨Nat.zero_le _, fun j hj => by omega⟩
  ·obtain ⟨hk, hx⟩ := hI
   by_cases hlt : k < l.length
   ·have hlt2 : k < m.length := by omega
    have e1 := iRows_get (List.getElem?_eq_getElem hlt)
    have e2 := iRows_get (List.getElem?_eq_getElem hlt2)
    repeat' (first|((first|(refine zT ?_;intro K' hK')|(refine zG ?_ ?_<;>(try refine zH ?_)<;>intro hguard<;>(try exact zX)<;>try intro K' hK'))<;>((try simp +contextual only [go_sem, e1, e2, Int.toNat_natCast, Int.ofNat_lt]);(repeat' first|(with_reducible refine hK' _ _ ?_;clear hK' K')|exact zY|with_reducible refine And.intro ?_ ?_|(with_reducible intro hpath;try exact zP)|(refine hK' _ _ ?_;clear hK' K')|fail);try refine zS ?_))|(refine zE ?_;refine hK _ _ ?_;clear hK K)|(refine zN ?_;try refine zS ?_)|refine zA ?_|(refine zB ?_;intro K hK)|(refine zC ?_ ?_<;>(try refine zH ?_)<;>intro hcond<;>try exact zX)|fail)
    ·have e : ¬ l = m := fun e => by subst e; omega
     simp [Rets, aret, Blk.cells, ty, Try.results15, ares, toT1, toT, borrow, borrow0, capCell, toTree0, tbool, e]
    ·refine ⟨k + 1,Weak.headN 0 26 [0, 1, 12, 13] zW,?_,?_⟩
     ·refine ⟨hlt, fun j hj => ?_⟩
      by_cases hjk : j = k
      ·subst hjk; rw [List.getElem?_eq_getElem hlt, List.getElem?_eq_getElem hlt2]; congr 1
      ·exact hx j (by omega)
     ·omega
   ·have e : l = m := List.ext_getElem? fun j => by
     by_cases hj : j < l.length
     ·exact hx j (by omega)
     ·rw [List.getElem?_eq_none (by omega), List.getElem?_eq_none (by omega)]
    refine zR (zc @Int.ofNat_lt trivial) trivial trivial ?_
    simp [Rets, aret, Blk.cells, ty, Try.results15, ares, toT1, toT, borrow, borrow0, capCell, toTree0, tbool, e]
open Go.Sort (SWO)
instance : Inhabited E := ⟨⟨0, 0, 0⟩⟩
def cmpP (a b c d : Int) : Int := orI [cmpI a c, cmpI b d]
def cfE (x y : E) : Int := cmpP x.a x.b y.a y.b
theorem ltOf_cfE (x y : E) : Go.Proofs.ltOf cfE x y = true ↔ ltE x y := by
 unfold Go.Proofs.ltOf cfE cmpP orI orI cmpI ltE
 simp only [decide_eq_true_eq]
 (repeat' split) <;> simp_all [orI] <;> omega
theorem swoE : SWO (Go.Proofs.ltOf cfE) where
 irrefl x := by
  rw [← Bool.not_eq_true, ltOf_cfE]; unfold ltE; omega
 trans x y z h1 h2 := by
  rw [ltOf_cfE] at *; unfold ltE at *; omega
 ntrans x y z h1 h2 := by
  rw [← Bool.not_eq_true, ltOf_cfE] at *; unfold ltE at *; omega
noncomputable def sortE (es : List E) : List E := sortL cfE es
def neE (x y : E) : Prop := ¬ (x.a = y.a ∧ x.b = y.b)
theorem neE.symm {x y : E} (h : neE x y) : neE y x := by unfold neE at *; omega
def distinctE (es : List E) : Prop := es.Pairwise neE
theorem sortE_perm (es : List E) : (sortE es).Perm es := (sortL_spec swoE es).1
theorem sortE_sorted {es : List E} (h : distinctE es) : (sortE es).Pairwise ltE := by
 have h1 : distinctE (sortE es) := (List.Perm.pairwise_iff neE.symm (sortE_perm es)).2 h
 unfold distinctE at h1
 rw [List.pairwise_iff_getElem] at h1 ⊢
 intro i j hi hj hij
 have h2 := (sortL_spec swoE es).2 i j _ _ hij (List.getElem?_eq_getElem hi) (List.getElem?_eq_getElem hj)
 rw [← Bool.not_eq_true, ltOf_cfE] at h2
 have h3 := h1 i j hi hj hij
 unfold ltE neE at *
 simp only [sortE] at *
 omega
theorem sorted_unique {l l' : List E} (h : l.Pairwise ltE) (h' : l'.Pairwise ltE) (hp : l.Perm l') : l = l' :=
 List.Perm.eq_of_pairwise (le := ltE) (fun a b _ _ h1 h2 => by unfold ltE at *; omega) h h' hp
end Go.Proofs.Ytgklecfiflhjmaa
namespace Go.Proofs.Ytgklecfiflhjmaa
open Go.Sp
set_option maxHeartbeats 1000000
structure PreV (L : List (Nat × Nat)) (v : Nat) (by' : Int) (anc : Nat → Prop) (s : BS) : Prop where
 ok : BOK L.length s
 hv : v < 12
 h0 : sn s v = 0
 ancs : ∀ y, anc y → sn s y ≠ 0
 fin : ∀ e, NL L e → ∀ x z, tch L e x → tch L e z → sn s x ≠ 0 → ¬ anc x → sn s z ≠ 0
 path : ∀ y, anc y → ∃ Q, PathA L anc v by' y Q
 byq : ∀ e : Nat, (e : Int) = by' → ∀ x, tch L e x → x = v ∨ anc x
 byn : ∀ y, anc y → 0 ≤ by'
structure Fnd (L : List (Nat × Nat)) (v : Nat) (by' : Int) (anc : Nat → Prop) (s si : BS) (seg : List Nat) (nb : List (List Nat)) : Prop where
 ok : BOK L.length si
 opn : si.opn = s.opn ++ seg
 out : si.out = s.out ++ nb
 keep : ∀ x, sn s x ≠ 0 → sn si x = sn s x
 keepl : ∀ x, sn s x ≠ 0 → lw si x = lw s x
 new : ∀ x, sn s x = 0 → sn si x ≠ 0 → x ≠ v → s.time + 1 < sn si x
 sv : sn si v = s.time + 1
 segn : ∀ e, e ∈ seg → NL L e ∧ (e : Int) ≠ by' ∧ ∃ x, (sn s x = 0 ∧ sn si x ≠ 0) ∧ tch L e x
 segi : ∀ e, e ∈ seg → ∀ x, tch L e x → (sn s x = 0 ∧ sn si x ≠ 0) ∨ (anc x ∧ lw si v ≤ sn s x)
 segr : ∀ e, e ∈ seg → 0 ≤ by' ∧ Rel L by'.toNat e
 nbn : ∀ B, B ∈ nb → ∀ e, e ∈ B → NL L e ∧ (e : Int) ≠ by' ∧ ∃ x, (sn s x = 0 ∧ sn si x ≠ 0) ∧ tch L e x
 nbi : ∀ B, B ∈ nb → ∀ e, e ∈ B → ∀ x, tch L e x → (sn s x = 0 ∧ sn si x ≠ 0)
 nbr : ∀ B, B ∈ nb → B ≠ [] ∧ ∀ e, e ∈ B → ∀ f, f ∈ B → Rel L e f
 nbs : ∀ B, B ∈ nb → B.Pairwise (· < ·)
 nd : (seg ++ nb.flatten).Nodup
 peel : ∀ (j : Nat) B, nb[j]? = some B → ∃ a, ∀ x f g, f ∈ B → tch L f x → NL L g → g ∉ (nb.take (j + 1)).flatten → tch L g x → x = a
 lowle : lw si v ≤ sn si v
 wit : lw si v < sn si v → ∃ y A b, anc y ∧ sn s y = lw si v ∧ Wit L (fun x => sn s x = 0 ∧ sn si x ≠ 0) v y A b
structure Md (L : List (Nat × Nat)) (v : Nat) (by' : Int) (anc : Nat → Prop) (s : BS) (i : Nat) (si : BS) (seg : List Nat) (nb : List (List Nat)) : Prop where
 fd : Fnd L v by' anc s si seg nb
 cov : ∀ e, NL L e → ∀ x, sn s x = 0 → sn si x ≠ 0 → x ≠ v → tch L e x → e ∈ seg ∨ e ∈ nb.flatten
 covv : ∀ e, e ∈ (atV L v).take i → e ∈ seg ∨ e ∈ nb.flatten ∨ (e : Int) = by'
 src : ∀ e, e ∈ seg ∨ e ∈ nb.flatten → (∃ x, sn s x = 0 ∧ sn si x ≠ 0 ∧ x ≠ v ∧ tch L e x) ∨ e ∈ (atV L v).take i
structure VS (L : List (Nat × Nat)) (v : Nat) (by' : Int) (anc : Nat → Prop) (s s' : BS) (seg : List Nat) (nb : List (List Nat)) : Prop where
 fd : Fnd L v by' anc s s' seg nb
 cov : ∀ e, NL L e → ∀ x, sn s x = 0 → sn s' x ≠ 0 → tch L e x → e ∈ seg ∨ e ∈ nb.flatten ∨ (e : Int) = by'
section
variable {L : List (Nat × Nat)} {v : Nat} {by' : Int} {anc : Nat → Prop} {s si : BS} {seg : List Nat} {nb : List (List Nat)} {i : Nat}
theorem PreV.ancne (h : PreV L v by' anc s) {y : Nat} (hy : anc y) : y ≠ v := fun e => h.ancs y hy (e ▸ h.h0)
theorem PreV.le (h : PreV L v by' anc s) (x : Nat) : sn s x ≤ s.time := getD_le h.ok.sb
theorem Md.zero (h : PreV L v by' anc s) : Md L v by' anc s 0 (enterB v s) [] [] := by
 have hls := h.ok.ls
 have hll := h.ok.ll
 have e1 : ∀ x, sn (enterB v s) x = if x = v then s.time + 1 else sn s x := fun x => sn_set (by rw [hls]; exact h.hv)
 have e2 : ∀ x, lw (enterB v s) x = if x = v then s.time + 1 else lw s x := fun x => sn_set (by rw [hll]; exact h.hv)
 refine ⟨⟨(enterB_ok h.ok h.hv h.h0).1, by simp [enterB], by simp [enterB], fun x hx => ?_, fun x hx => ?_, fun x hx hx2 hne => ?_, by rw [e1, if_pos rfl], by simp, by simp, by simp, by simp, by simp, by simp, by simp, by simp, by simp, ?_, fun hlt => ?_⟩, fun e he x hx hx2 hne => ?_, by simp, by simp⟩
 ·rw [e1, if_neg (fun e : x = v => hx (e ▸ h.h0))]
 ·rw [e2, if_neg (fun e : x = v => hx (e ▸ h.h0))]
 ·rw [e1, if_neg hne] at hx2; exact absurd hx hx2
 ·rw [e1, e2, if_pos rfl, if_pos rfl]; exact Nat.le_refl _
 ·rw [e1, e2, if_pos rfl, if_pos rfl] at hlt; omega
 ·rw [e1, if_neg hne] at hx2; exact absurd hx hx2
theorem Md.done (h : Md L v by' anc s (atV L v).length si seg nb) : VS L v by' anc s si seg nb := by
 refine ⟨h.fd, fun e he x hx hx2 ht => ?_⟩
 by_cases hxv : x = v
 ·subst hxv
  refine h.covv e ?_
  rw [List.take_length]; exact atV_iff.2 ⟨he, ht⟩
 ·rcases h.cov e he x hx hx2 hxv ht with q | q
  ·exact .inl q
  ·exact .inr (.inl q)
theorem atV_at {e : Nat} (hi : i < (atV L v).length) (he : (atV L v)[i] = e) : (atV L v).take (i + 1) = (atV L v).take i ++ [e] ∧ e ∉ (atV L v).take i := by
 refine ⟨by rw [List.take_succ_eq_append_getElem hi, he], fun hm => ?_⟩
 obtain ⟨j, hj, e2⟩ := List.mem_iff_getElem.1 hm
 rw [List.length_take] at hj
 rw [List.getElem_take] at e2
 have hp := List.pairwise_iff_getElem.1 (atV_nodup L v) j i (by omega) hi (by omega)
 exact hp (e2.trans he.symm)
theorem Md.skip {e : Nat} (h : Md L v by' anc s i si seg nb) (hi : i < (atV L v).length) (he : (atV L v)[i] = e) (hc : e ∈ seg ∨ e ∈ nb.flatten ∨ (e : Int) = by') : Md L v by' anc s (i + 1) si seg nb := by
 obtain ⟨t1, t2⟩ := atV_at hi he
 refine ⟨h.fd, h.cov, fun f hf => ?_, fun f hf => ?_⟩
 ·rw [t1] at hf
  rcases List.mem_append.1 hf with hf | hf
  ·exact h.covv f hf
  ·rw [List.mem_singleton.1 hf]; exact hc
 ·rcases h.src f hf with q | q
  ·exact .inl q
  ·right; rw [t1]; exact List.mem_append_left _ q
theorem Wit.mono {S S' : Nat → Prop} {y b : Nat} {A : Nat → Bool} (h : Wit L S v y A b) (hs : ∀ x, S x → S' x) : Wit L S' v y A b :=
 ⟨h.sup, h.bd, h.ab, h.nl, h.tb, fun e h1 h2 x h3 => hs x (h.ins e h1 h2 x h3), fun x hx => (h.bs x hx).imp (hs x) id⟩
theorem Md.back (hp : PreV L v by' anc s) {e u : Nat} (h : Md L v by' anc s i si seg nb) (hi : i < (atV L v).length) (he : (atV L v)[i] = e) (hby : (e : Int) ≠ by') (hu : anc u) (htu : tch L e u) :
  Md L v by' anc s (i + 1) (lowB v (sn si u) (pushB e si)) (seg ++ [e]) nb := by
 obtain ⟨t1, t2⟩ := atV_at hi he
 obtain ⟨hn, htv⟩ := atV_iff.1 (by rw [← he]; exact List.getElem_mem hi : e ∈ atV L v)
 have huv := hp.ancne hu
 have fd := h.fd
 have hok := pushB_ok fd.ok hn.1
 have hsu : sn si u = sn s u := fd.keep u (hp.ancs u hu)
 have e2 : ∀ x, lw (lowB v (sn si u) (pushB e si)) x = if x = v then min (lw si v) (sn si u) else lw si x := fun x => sn_set (by rw [hok.ll]; exact hp.hv)
 have e1 : ∀ x, sn (lowB v (sn si u) (pushB e si)) x = sn si x := fun _ => rfl
 have hsv0 : sn si v ≠ 0 := by rw [fd.sv]; omega
 have hlu : sn s u ≤ s.time := hp.le u
 have hnew : e ∉ seg ∧ e ∉ nb.flatten := by
  refine not_or.1 fun q => ?_
  rcases h.src e q with ⟨x, hx1, hx2, hx3, hx4⟩ | q
  ·rcases tch_two htu htv huv hx4 with rfl | rfl
   ·exact hp.ancs _ hu hx1
   ·exact hx3 rfl
  ·exact t2 q
 refine ⟨⟨lowB_ok hok (getD_le fd.ok.sb), by simp [lowB, pushB, fd.opn], fd.out, fd.keep, fun x hx => ?_, fd.new, fd.sv, fun f hf => ?_, fun f hf x hx => ?_, fun f hf => ?_, fd.nbn, fd.nbi, fd.nbr, fd.nbs, ?_, fd.peel, ?_, fun hlt => ?_⟩, fun f hf x hx hx2 hne ht => ?_, fun f hf => ?_, fun f hf => ?_⟩
 ·rw [e2, if_neg (fun e : x = v => hx (e ▸ hp.h0))]; exact fd.keepl x hx
 ·rcases List.mem_append.1 hf with hf | hf
  ·exact fd.segn f hf
  ·rw [List.mem_singleton.1 hf]
   exact ⟨hn, hby, v, ⟨hp.h0, hsv0⟩, htv⟩
 ·rw [e2, if_pos rfl]
  rcases List.mem_append.1 hf with hf | hf
  ·rcases fd.segi f hf x hx with q | ⟨q1, q2⟩
   ·exact .inl q
   ·exact .inr ⟨q1, by omega⟩
  ·rw [List.mem_singleton.1 hf] at hx
   rcases tch_two htu htv huv hx with rfl | rfl
   ·exact .inr ⟨hu, by omega⟩
   ·exact .inl ⟨hp.h0, hsv0⟩
 ·have h0 := hp.byn u hu
  rcases List.mem_append.1 hf with hf | hf
  ·exact fd.segr f hf
  ·rw [List.mem_singleton.1 hf]
   obtain ⟨Q, hQ⟩ := hp.path u hu
   exact ⟨h0, rel_back hQ hn.1 htu htv huv hby h0⟩
 ·have := fd.nd
  rw [List.append_assoc]
  rw [List.nodup_append] at this ⊢
  obtain ⟨a1, a2, a3⟩ := this
  refine ⟨a1, ?_, fun x hx y hy => ?_⟩
  ·rw [List.singleton_append, List.nodup_cons]; exact ⟨hnew.2, a2⟩
  ·rw [List.singleton_append, List.mem_cons] at hy
   rcases hy with rfl | hy
   ·rintro rfl; exact hnew.1 hx
   ·exact a3 x hx y hy
 ·rw [e2, if_pos rfl, e1]; have := fd.lowle; omega
 ·rw [e2, if_pos rfl, e1] at hlt
  by_cases hle : lw si v ≤ sn si u
  ·obtain ⟨y, A, b, w1, w2, w3⟩ := fd.wit (by omega)
   exact ⟨y, A, b, w1, by rw [e2, if_pos rfl, w2]; omega, w3⟩
  ·refine ⟨u, oneA e, e, hu, by rw [e2, if_pos rfl]; omega, SupA.one hn.1, fun T => ?_, by simp [oneA], hn, htu, fun f hf hne => ?_, fun x hx => ?_⟩
   ·rw [cross_one L hn.1, crs_ends T htu htv huv]; cases T u <;> cases T v <;> rfl
   ·simp [oneA] at hf; exact absurd hf hne
   ·rcases tch_two htu htv huv hx with rfl | rfl
    ·exact .inr rfl
    ·exact .inl ⟨hp.h0, hsv0⟩
 ·rcases h.cov f hf x hx hx2 hne ht with q | q
  ·exact .inl (List.mem_append_left _ q)
  ·exact .inr q
 ·rw [t1] at hf
  rcases List.mem_append.1 hf with hf | hf
  ·rcases h.covv f hf with q | q
   ·exact .inl (List.mem_append_left _ q)
   ·exact .inr q
  ·exact .inl (List.mem_append_right _ hf)
 ·rw [t1]
  rcases hf with hf | hf
  ·rcases List.mem_append.1 hf with hf | hf
   ·rcases h.src f (.inl hf) with q | q
    ·exact .inl q
    ·exact .inr (List.mem_append_left _ q)
   ·exact .inr (List.mem_append_right _ hf)
  ·rcases h.src f (.inr hf) with q | q
   ·exact .inl q
   ·exact .inr (List.mem_append_left _ q)
end
def valL (v : Int) : List E → Int
 | [] => 0
 | x :: xs => (if x.a ≠ x.b ∧ (x.a = v ∨ x.b = v) then x.m else 0) + valL v xs
end Go.Proofs.Ytgklecfiflhjmaa
namespace Go.Proofs.Ytgklecfiflhjmaa
open Go.Sp Go.RowKit
end Go.Proofs.Ytgklecfiflhjmaa
namespace Go.Proofs.Ytgklecfiflhjmaa
open Go.Sp
def iC (B : List Int) : List ACell := B.map fun x => ACell.int .i64 x
theorem iC_len (B : List Int) : (iC B).length = B.length := by simp [iC]
theorem iC_set (B : List Int) (i : Nat) (x : Int) : (iC B).set i (.int .i64 x) = iC (B.set i x) := by simp [iC, List.map_set]
theorem made_ints (n : Nat) : madeA [ACell.int .i64 0] n = iC (List.replicate n 0) := by simp [madeA, iC]
theorem iC_trees (B : List Int) : (iC B).mapM toTree0 = some (B.map fun x => Tree.int .i64 x) := by
 induction B with
 | nil => rfl
 | cons x xs ih => simp only [iC, List.map_cons, List.mapM_cons] at ih ⊢; rw [ih]; rfl
theorem iRows_pre (B : List Int) (i : Nat) (r : List Tree) (m : Nat) (x : Tree) (h1 : (iRows B)[i]? = some r) (h2 : r[m]? = some x) : (B.map fun x => Tree.int .i64 x)[i * 1 + m]? = some x := by
 simp only [iRows, List.getElem?_map] at h1
 cases hb : B[i]? with
 | none => rw [hb] at h1; simp at h1
 | some b =>
  rw [hb] at h1
  simp at h1
  subst h1
  cases m with
  | zero => simp at h2; simp [hb, h2]
  | succ m => simp at h2
theorem iC_get {B : List Int} {i : Nat} {x : Int} (h : B[i]? = some x) : (iC B)[i]? = some (.int .i64 x) := by simp [iC, h]
def llRows (ls : List (List Int)) : List (List Tree) := ls.map fun l => [Tree.slice (iRows l)]
def tlists (ls : List (List Int)) : TVal := .t (.slice (llRows ls))
attribute [go_sem] tlists
theorem llRows_len (ls : List (List Int)) : (llRows ls).length = ls.length := by simp [llRows]
theorem llRows_get {ls : List (List Int)} {i : Nat} {l : List Int} (h : ls[i]? = some l) : (llRows ls)[i]? = some [Tree.slice (iRows l)] := by simp [llRows, h]
theorem llRows_k' {ls : List (List Int)} {r : List Tree} (h : r ∈ llRows ls) : r.length = 1 := by
 obtain ⟨x, _, rfl⟩ := List.mem_map.1 h; rfl
theorem llRows_snoc (ls : List (List Int)) (a : List Int) : llRows ls ++ [[Tree.slice (iRows a)]] = llRows (ls ++ [a]) := by simp [llRows]
theorem chRows (ls : List (List Int)) : (ls.map iRows).map (fun r => [Tree.slice r]) = llRows ls := by simp [llRows]
def chI (b : Nat) (ls : List (List Int)) : List ACell := chC b (ls.map iRows)
def chJ (ls : List (List Int)) : List Blk := chB (ls.map iRows)
theorem chI_len (b : Nat) (ls : List (List Int)) : (chI b ls).length = ls.length := by simp [chI, chC_len]
theorem chJ_len (ls : List (List Int)) : (chJ ls).length = ls.length := by simp [chJ, chB_len]
theorem chI_get {b i : Nat} {ls : List (List Int)} {l : List Int} (h : ls[i]? = some l) : (chI b ls)[i]? = some (.slice (iRows l) (.chain (i + b))) := chC_get (by simp [h])
theorem chI_drop {b i : Nat} {ls : List (List Int)} {l : List Int} (h : ls[i]? = some l) : (chI b ls).drop i = .slice (iRows l) (.chain (i + b)) :: (chI b ls).drop (i + 1) := chC_drop (by simp [h])
theorem chI_set (b i : Nat) (ls : List (List Int)) (l : List Int) : (chI b ls).set i (.slice (iRows l) (.chain (i + b))) = chI b (ls.set i l) := by unfold chI; rw [chC_set, List.map_set]
theorem chJ_get {i : Nat} {ls : List (List Int)} {l : List Int} (h : ls[i]? = some l) : (chJ ls)[i]? = some (.chain l.length 1) := by
 have := chB_get (f := ls.map iRows) (i := i) (r := iRows l) (by simp [h])
 rwa [iRows_len] at this
theorem chJ_set (i : Nat) (ls : List (List Int)) (l : List Int) {n : Nat} (hn : n = l.length) : (chJ ls).set i (.chain n 1) = chJ (ls.set i l) := by
 unfold chJ; rw [chB_set _ i (iRows l) (by rw [iRows_len]; exact hn), List.map_set]
theorem chI_in {m b : Nat} {ls : List (List Int)} (h : b + ls.length ≤ m) : blkIn m (.box (chI b ls)) := chC_in (by simpa using h)
theorem chJ_in {m : Nat} {ls : List (List Int)} : blksIn m (chJ ls) := chB_in
theorem chJ_take {ls : List (List Int)} {n : Nat} (h : ls.length ≤ n) : (chJ ls).take n = chJ ls := List.take_of_length_le (by rw [chJ_len]; exact h)
theorem chI_nil (b n : Nat) : chC b (List.replicate n []) = chI b (List.replicate n []) := by simp [chI, iRows]
theorem chJ_nil (n : Nat) : chB (List.replicate n []) = chJ (List.replicate n []) := by simp [chJ, iRows]
structure R where
 n : Int
 es : List E
 ar : List (List Int)
def R.g (r : R) : G := ⟨r.n, r.es⟩
set_option maxHeartbeats 1000000
def Peel (L : List (Nat × Nat)) (nb : List (List Nat)) : Prop := ∀ (j : Nat) B, nb[j]? = some B → ∃ a, ∀ x f g, f ∈ B → tch L f x → NL L g → g ∉ (nb.take (j + 1)).flatten → tch L g x → x = a
theorem Peel.app {L : List (Nat × Nat)} {nb nb2 : List (List Nat)} (h1 : Peel L nb) (h2 : Peel L nb2) : Peel L (nb ++ nb2) := by
 intro j B hB
 by_cases hj : j < nb.length
 ·rw [List.getElem?_append_left hj] at hB
  obtain ⟨a, ha⟩ := h1 j B hB
  refine ⟨a, fun x f g q1 q2 q3 q4 q5 => ha x f g q1 q2 q3 ?_ q5⟩
  rwa [List.take_append_of_le_length (by omega)] at q4
 ·rw [List.getElem?_append_right (by omega)] at hB
  obtain ⟨a, ha⟩ := h2 _ B hB
  refine ⟨a, fun x f g q1 q2 q3 q4 q5 => ha x f g q1 q2 q3 (fun hx => q4 ?_) q5⟩
  rw [List.take_append, List.flatten_append]
  refine List.mem_append_right _ ?_
  rwa [show j + 1 - nb.length = j - nb.length + 1 by omega]
theorem Peel.snoc {L : List (Nat × Nat)} {nb : List (List Nat)} {B : List Nat} (h1 : Peel L nb) (a : Nat) (h2 : ∀ x f g, f ∈ B → tch L f x → NL L g → g ∉ nb.flatten → g ∉ B → tch L g x → x = a) : Peel L (nb ++ [B]) := by
 intro j B' hB
 by_cases hj : j < nb.length
 ·rw [List.getElem?_append_left hj] at hB
  obtain ⟨a, ha⟩ := h1 j B' hB
  refine ⟨a, fun x f g q1 q2 q3 q4 q5 => ha x f g q1 q2 q3 ?_ q5⟩
  rwa [List.take_append_of_le_length (by omega)] at q4
 ·rw [List.getElem?_append_right (by omega)] at hB
  have hl := (List.getElem?_eq_some_iff.1 hB).1
  have hj2 : j = nb.length := by simp at hl; omega
  subst hj2
  simp at hB
  subst hB
  refine ⟨a, fun x f g q1 q2 q3 q4 q5 => ?_⟩
  rw [List.take_of_length_le (by simp), List.flatten_append, List.mem_append, not_or] at q4
  exact h2 x f g q1 q2 q3 q4.1 (by simpa using q4.2) q5
section
variable {L : List (Nat × Nat)} {v : Nat} {by' : Int} {anc : Nat → Prop} {s si : BS} {seg : List Nat} {nb : List (List Nat)} {i : Nat}
theorem Fnd.ends (hp : PreV L v by' anc s) (h : Fnd L v by' anc s si seg nb) {e : Nat} (he : e ∈ seg ∨ e ∈ nb.flatten) {x : Nat} (hx : tch L e x) : sn si x ≠ 0 := by
 rcases he with he | he
 ·rcases h.segi e he x hx with q | q
  ·exact q.2
  ·rw [h.keep x (hp.ancs x q.1)]; exact hp.ancs x q.1
 ·obtain ⟨B, hB, heB⟩ := List.mem_flatten.1 he
  exact (h.nbi B hB e heB x hx).2
theorem Md.prec (hp : PreV L v by' anc s) {e w : Nat} (h : Md L v by' anc s i si seg nb) (hn : NL L e) (htv : tch L e v) (htw : tch L e w) (hwv : w ≠ v) (hw : w < 12) (hw0 : sn si w = 0) :
  PreV L w (e : Int) (fun y => anc y ∨ y = v) (pushB e si) := by
 have fd := h.fd
 have hsv0 : sn si v ≠ 0 := by rw [fd.sv]; omega
 have hka : ∀ y, anc y → sn si y ≠ 0 := fun y hy => by rw [fd.keep y (hp.ancs y hy)]; exact hp.ancs y hy
 refine ⟨pushB_ok fd.ok hn.1, hw, hw0, fun y hy => ?_, fun f hf x z hx hz hsx hnx => ?_, fun y hy => ?_, fun f hf x hx => ?_, fun _ _ => by omega⟩
 ·rcases hy with hy | rfl
  ·exact hka y hy
  ·exact hsv0
 ·simp only [not_or] at hnx
  show sn si z ≠ 0
  by_cases h0 : sn s x = 0
  ·exact fd.ends hp (h.cov f hf x h0 hsx hnx.2 hx) hz
  ·have := hp.fin f hf x z hx hz h0 hnx.1
   rw [fd.keep z this]; exact this
 ·rcases hy with hy | rfl
  ·obtain ⟨Q, hQ⟩ := hp.path y hy
   refine ⟨xorA Q (oneA e), hQ.sup.xor (SupA.one hn.1), fun T => ?_, fun f hf x hx => ?_, fun f hf hx => ?_⟩
   ·rw [cross_xor, cross_one L hn.1, hQ.bd, crs_ends T htv htw (Ne.symm hwv)]; cases T y <;> cases T v <;> cases T w <;> rfl
   ·by_cases q : f = e
    ·subst q
     rcases tch_two htv htw (Ne.symm hwv) hx with rfl | rfl
     ·exact .inl (.inr rfl)
     ·exact .inr rfl
    ·have : Q f = true := by simpa [xorA, oneA, q] using hf
     exact .inl (hQ.ins f this x hx)
   ·by_cases q : f = e
    ·rw [q]
    ·have : Q f = true := by simpa [xorA, oneA, q] using hf
     rcases hQ.ins f this w hx with q2 | q2
     ·exact absurd hw0 (hka w q2)
     ·exact absurd q2 hwv
  ·refine ⟨oneA e, SupA.one hn.1, fun T => ?_, fun f hf x hx => ?_, fun f hf hx => ?_⟩
   ·rw [cross_one L hn.1, crs_ends T htv htw (Ne.symm hwv)]
   ·have : f = e := by simpa [oneA] using hf
    subst this
    rcases tch_two htv htw (Ne.symm hwv) hx with rfl | rfl
    ·exact .inl (.inr rfl)
    ·exact .inr rfl
   ·have : f = e := by simpa [oneA] using hf
    rw [this]
 ·have : f = e := by omega
  subst this
  rcases tch_two htw htv hwv hx with rfl | rfl
  ·exact .inl rfl
  ·exact .inr (.inr rfl)
theorem Md.child (hp : PreV L v by' anc s) {e w : Nat} (h : Md L v by' anc s i si seg nb) (hi : i < (atV L v).length) (he : (atV L v)[i] = e) (hby : (e : Int) ≠ by') (htw : tch L e w) (hwv : w ≠ v) (hw : w < 12) (hw0 : sn si w = 0)
  {s2 : BS} {seg2 : List Nat} {nb2 : List (List Nat)} (h2 : VS L w (e : Int) (fun y => anc y ∨ y = v) (pushB e si) s2 seg2 nb2) :
  ∃ seg' nb', Md L v by' anc s (i + 1) (closeB v w si.opn.length (lowB v (lw s2 w) s2)) seg' nb' := by
 obtain ⟨t1, t2⟩ := atV_at hi he
 obtain ⟨hn, htv⟩ := atV_iff.1 (by rw [← he]; exact List.getElem_mem hi : e ∈ atV L v)
 have fd := h.fd
 have gd := h2.fd
 have hsv0 : sn si v ≠ 0 := by rw [fd.sv]; omega
 have htm : s.time + 1 ≤ si.time := by rw [← fd.sv]; exact getD_le fd.ok.sb
 have p1 : ∀ x, sn (pushB e si) x = sn si x := fun _ => rfl
 have p2 : ∀ x, lw (pushB e si) x = lw si x := fun _ => rfl
 have hka : ∀ y, anc y → sn si y = sn s y := fun y hy => fd.keep y (hp.ancs y hy)
 have k1 : ∀ x, sn si x ≠ 0 → sn s2 x = sn si x := gd.keep
 have k0 : ∀ x, sn s x ≠ 0 → sn s2 x = sn s x := fun x hx => by rw [k1 x (by rw [fd.keep x hx]; exact hx), fd.keep x hx]
 have s2v : sn s2 v = s.time + 1 := by rw [k1 v hsv0, fd.sv]
 have up : ∀ x, (sn s x = 0 ∧ sn si x ≠ 0) → (sn s x = 0 ∧ sn s2 x ≠ 0) := fun x hx => ⟨hx.1, by rw [k1 x hx.2]; exact hx.2⟩
 have up2 : ∀ x, (sn si x = 0 ∧ sn s2 x ≠ 0) → (sn s x = 0 ∧ sn s2 x ≠ 0) := fun x hx => ⟨Classical.byContradiction fun q => by rw [fd.keep x q] at hx; exact q hx.1, hx.2⟩
 have vS : sn s v = 0 ∧ sn s2 v ≠ 0 := ⟨hp.h0, by rw [s2v]; omega⟩
 have hwS : sn si w = 0 ∧ sn s2 w ≠ 0 := ⟨hw0, by rw [gd.sv]; omega⟩
 have new2 : ∀ x, sn si x = 0 → sn s2 x ≠ 0 → s.time + 1 < sn s2 x := fun x q1 q2 => by
  by_cases q : x = w
  ·subst q; rw [gd.sv]; show _ < si.time + 1; omega
  ·have := gd.new x q1 q2 q
   have e3 : (pushB e si).time = si.time := rfl
   omega
 have lv : lw s2 v = lw si v := gd.keepl v hsv0
 have e2 : ∀ x, lw (lowB v (lw s2 w) s2) x = if x = v then min (lw si v) (lw s2 w) else lw s2 x := fun x => by
  rw [← lv]; exact sn_set (by rw [gd.ok.ll]; exact hp.hv)
 have old : ∀ f, f ∈ seg ∨ f ∈ nb.flatten → f ≠ e ∧ ¬ (f ∈ seg2 ∨ f ∈ nb2.flatten) := fun f hf => by
  refine ⟨?_, fun q => ?_⟩
  ·rintro rfl; exact fd.ends hp hf htw hw0
  ·have : ∃ x, (sn si x = 0 ∧ sn s2 x ≠ 0) ∧ tch L f x := by
    rcases q with q | q
    ·exact (gd.segn f q).2.2
    ·obtain ⟨B, hB, hfB⟩ := List.mem_flatten.1 q
     exact (gd.nbn B hB f hfB).2.2
   obtain ⟨x, hx, ht⟩ := this
   exact fd.ends hp hf ht hx.1
 have notby : ∀ f, (∃ x, (sn si x = 0 ∧ sn s2 x ≠ 0) ∧ tch L f x) → (f : Int) ≠ by' := fun f ⟨x, hx, ht⟩ hf => by
  rcases hp.byq f hf x ht with rfl | q
  ·exact hsv0 hx.1
  ·rw [hka x q] at hx; exact hp.ancs x q hx.1
 have ne2 : e ∉ seg2 ∧ e ∉ nb2.flatten := ⟨fun q => (gd.segn e q).2.1 rfl, fun q => by
  obtain ⟨B, hB, hfB⟩ := List.mem_flatten.1 q
  exact (gd.nbn B hB e hfB).2.1 rfl⟩
 have nd0 : ((seg ++ nb.flatten) ++ (e :: (seg2 ++ nb2.flatten))).Nodup := by
  rw [List.nodup_append]
  refine ⟨fd.nd, ?_, fun x hx y hy => ?_⟩
  ·rw [List.nodup_cons, List.mem_append, not_or]; exact ⟨ne2, gd.nd⟩
  ·rw [List.mem_append] at hx
   obtain ⟨o1, o2⟩ := old x hx
   rintro rfl
   rcases List.mem_cons.1 hy with rfl | hy
   ·exact o1 rfl
   ·exact o2 (List.mem_append.1 hy)
 have peel0 : Peel L (nb ++ nb2) := Peel.app fd.peel gd.peel
 have nbn' : ∀ B, B ∈ nb ++ nb2 → ∀ f, f ∈ B → NL L f ∧ (f : Int) ≠ by' ∧ ∃ x, (sn s x = 0 ∧ sn s2 x ≠ 0) ∧ tch L f x := fun B hB f hf => by
  rcases List.mem_append.1 hB with hB | hB
  ·obtain ⟨q1, q2, x, q3, q4⟩ := fd.nbn B hB f hf
   exact ⟨q1, q2, x, up x q3, q4⟩
  ·obtain ⟨q1, q2, x, q3, q4⟩ := gd.nbn B hB f hf
   exact ⟨q1, notby f ⟨x, q3, q4⟩, x, up2 x q3, q4⟩
 have nbi' : ∀ B, B ∈ nb ++ nb2 → ∀ f, f ∈ B → ∀ x, tch L f x → (sn s x = 0 ∧ sn s2 x ≠ 0) := fun B hB f hf x hx => by
  rcases List.mem_append.1 hB with hB | hB
  ·exact up x (fd.nbi B hB f hf x hx)
  ·exact up2 x (gd.nbi B hB f hf x hx)
 have nbr' : ∀ B, B ∈ nb ++ nb2 → B ≠ [] ∧ ∀ f, f ∈ B → ∀ g, g ∈ B → Rel L f g := fun B hB => by
  rcases List.mem_append.1 hB with hB | hB
  ·exact fd.nbr B hB
  ·exact gd.nbr B hB
 have nbs' : ∀ B, B ∈ nb ++ nb2 → B.Pairwise (· < ·) := fun B hB => by
  rcases List.mem_append.1 hB with hB | hB
  ·exact fd.nbs B hB
  ·exact gd.nbs B hB
 have cov' : ∀ f, NL L f → ∀ x, sn s x = 0 → sn s2 x ≠ 0 → x ≠ v → tch L f x → (f ∈ seg ∨ f ∈ nb.flatten) ∨ (f = e ∨ f ∈ seg2 ∨ f ∈ nb2.flatten) := fun f hf x q1 q2 q3 q4 => by
  by_cases q5 : sn si x = 0
  ·rcases h2.cov f hf x q5 q2 q4 with q | q | q
   ·exact .inr (.inr (.inl q))
   ·exact .inr (.inr (.inr q))
   ·exact .inr (.inl (by omega))
  ·exact .inl (h.cov f hf x q1 q5 q3 q4)
 have covv' : ∀ f, f ∈ (atV L v).take (i + 1) → (f ∈ seg ∨ f ∈ nb.flatten) ∨ (f = e ∨ f ∈ seg2 ∨ f ∈ nb2.flatten) ∨ (f : Int) = by' := fun f hf => by
  rw [t1] at hf
  rcases List.mem_append.1 hf with hf | hf
  ·rcases h.covv f hf with q | q | q
   ·exact .inl (.inl q)
   ·exact .inl (.inr q)
   ·exact .inr (.inr q)
  ·exact .inr (.inl (.inl (List.mem_singleton.1 hf)))
 have src' : ∀ f, ((f ∈ seg ∨ f ∈ nb.flatten) ∨ (f = e ∨ f ∈ seg2 ∨ f ∈ nb2.flatten)) → (∃ x, sn s x = 0 ∧ sn s2 x ≠ 0 ∧ x ≠ v ∧ tch L f x) ∨ f ∈ (atV L v).take (i + 1) := fun f hf => by
  rw [t1]
  have two : (∃ x, (sn si x = 0 ∧ sn s2 x ≠ 0) ∧ tch L f x) → (∃ x, sn s x = 0 ∧ sn s2 x ≠ 0 ∧ x ≠ v ∧ tch L f x) := fun ⟨x, q1, q2⟩ => ⟨x, (up2 x q1).1, q1.2, fun e => hsv0 (e ▸ q1.1), q2⟩
  rcases hf with hf | rfl | hf | hf
  ·rcases h.src f hf with ⟨x, q1, q2, q3, q4⟩ | q
   ·exact .inl ⟨x, q1, by rw [k1 x q2]; exact q2, q3, q4⟩
   ·exact .inr (List.mem_append_left _ q)
  ·exact .inr (List.mem_append_right _ (by simp))
  ·exact .inl (two (gd.segn f hf).2.2)
  ·obtain ⟨B, hB, hfB⟩ := List.mem_flatten.1 hf
   exact .inl (two (gd.nbn B hB f hfB).2.2)
 have r2 : ∀ f, f ∈ e :: seg2 → Rel L e f := fun f hf => by
  rcases List.mem_cons.1 hf with rfl | hf
  ·exact Rel.refl
  ·have := (gd.segr f hf).2; rwa [Int.toNat_natCast] at this
 have hop : s2.opn = si.opn ++ (e :: seg2) := by rw [gd.opn]; show (si.opn ++ [e]) ++ seg2 = _; simp
 have hou : s2.out = si.out ++ nb2 := gd.out
 have ok3 : BOK L.length (lowB v (lw s2 w) s2) := lowB_ok gd.ok (getD_le gd.ok.lb)
 have lww : lw (lowB v (lw s2 w) s2) w = lw s2 w := by rw [e2, if_neg hwv]
 unfold closeB
 split
 ·rename_i hc
  have hc' : s.time + 1 ≤ lw s2 w := by rw [← lww, ← s2v]; exact hc
  have hlow : ∀ x, lw (lowB v (lw s2 w) s2) x = if x = v then lw si v else lw s2 x := fun x => by
   rw [e2]; have := fd.lowle; rw [fd.sv] at this
   split <;> omega
  have inB : ∀ f, f ∈ isortN (e :: seg2) ↔ f = e ∨ f ∈ seg2 := fun f => by rw [(isortM_perm _).mem_iff, List.mem_cons]
  have bn : ∀ f, f ∈ isortN (e :: seg2) → NL L f ∧ (f : Int) ≠ by' ∧ ∃ x, (sn s x = 0 ∧ sn s2 x ≠ 0) ∧ tch L f x := fun f hf => by
   rcases (inB f).1 hf with rfl | hf
   ·exact ⟨hn, hby, v, vS, htv⟩
   ·obtain ⟨q1, q2, x, q3, q4⟩ := gd.segn f hf
    exact ⟨q1, notby f ⟨x, q3, q4⟩, x, up2 x q3, q4⟩
  have bi : ∀ f, f ∈ isortN (e :: seg2) → ∀ x, tch L f x → (sn si x = 0 ∧ sn s2 x ≠ 0) ∨ x = v := fun f hf x hx => by
   rcases (inB f).1 hf with rfl | hf
   ·rcases tch_two htw htv hwv hx with rfl | rfl
    ·exact .inl hwS
    ·exact .inr rfl
   ·rcases gd.segi f hf x hx with q | ⟨q1 | q1, q2⟩
    ·exact .inl q
    ·exfalso
     have e3 : sn (pushB e si) x = sn s x := hka x q1
     rw [e3] at q2
     have := hp.le x
     omega
    ·exact .inr q1
  refine ⟨seg, nb ++ nb2 ++ [isortN (e :: seg2)], ⟨⟨ok3.ls, ok3.ll, ok3.tm, ok3.sb, ok3.lb, fun x hx => ok3.op x (List.mem_of_mem_take hx)⟩, ?_, ?_, k0, fun x hx => ?_, fun x q1 q2 q3 => ?_, s2v, fun f hf => ?_, fun f hf x hx => ?_, fd.segr, fun B hB f hf => ?_, fun B hB f hf x hx => ?_, fun B hB => ?_, fun B hB => ?_, ?_, ?_, ?_, fun hlt => ?_⟩, fun f hf x q1 q2 q3 q4 => ?_, fun f hf => ?_, fun f hf => ?_⟩
  ·show (s2.opn.take si.opn.length) = _
   rw [hop, List.take_left]; exact fd.opn
  ·show s2.out ++ [isortN (s2.opn.drop si.opn.length)] = _
   rw [hop, List.drop_left, hou, fd.out]; simp
  ·show lw (lowB v (lw s2 w) s2) x = _
   rw [hlow, if_neg (fun e : x = v => hx (e ▸ hp.h0)), gd.keepl x (by rw [p1, fd.keep x hx]; exact hx)]
   exact fd.keepl x hx
  ·show s.time + 1 < sn s2 x
   by_cases q4 : sn si x = 0
   ·exact new2 x q4 q2
   ·rw [k1 x q4]; exact fd.new x q1 q4 q3
  ·obtain ⟨q1, q2, x, q3, q4⟩ := fd.segn f hf
   exact ⟨q1, q2, x, up x q3, q4⟩
  ·show _ ∨ (anc x ∧ lw (lowB v (lw s2 w) s2) v ≤ _)
   rw [hlow, if_pos rfl]
   exact (fd.segi f hf x hx).imp (up x) id
  ·rcases List.mem_append.1 hB with hB | hB
   ·exact nbn' B hB f hf
   ·rw [List.mem_singleton.1 hB] at hf; exact bn f hf
  ·rcases List.mem_append.1 hB with hB | hB
   ·exact nbi' B hB f hf x hx
   ·rw [List.mem_singleton.1 hB] at hf
    rcases bi f hf x hx with q | q
    ·exact up2 x q
    ·rw [q]; exact vS
  ·rcases List.mem_append.1 hB with hB | hB
   ·exact nbr' B hB
   ·rw [List.mem_singleton.1 hB]
    refine ⟨fun q => ?_, fun f hf g hg => (r2 f (List.mem_cons.2 ((inB f).1 hf))).symm.trans (r2 g (List.mem_cons.2 ((inB g).1 hg)))⟩
    have := (inB e).2 (.inl rfl)
    rw [q] at this; simp at this
  ·rcases List.mem_append.1 hB with hB | hB
   ·exact nbs' B hB
   ·rw [List.mem_singleton.1 hB]
    refine isortN_strict ?_
    rw [List.nodup_append] at nd0
    have := nd0.2.1
    rw [List.nodup_cons, List.nodup_append] at this
    rw [List.nodup_cons]
    exact ⟨ne2.1, this.2.1⟩
  ·refine (List.Perm.nodup_iff ?_).2 nd0
   refine List.perm_iff_count.2 fun a => ?_
   have := (isortM_perm (e :: seg2)).count_eq a
   simp only [List.flatten_append, List.count_append, List.flatten_cons, List.flatten_nil, List.append_nil, List.count_cons] at this ⊢
   omega
  ·refine Peel.snoc peel0 v fun x f g q1 q2 q3 q4 q5 q6 => ?_
   rcases bi f q1 x q2 with q | q
   ·exfalso
    rw [List.flatten_append, List.mem_append, not_or] at q4
    rcases h2.cov g q3 x q.1 q.2 q6 with r | r | r
    ·exact q5 ((inB g).2 (.inr r))
    ·exact q4.2 r
    ·exact q5 ((inB g).2 (.inl (by omega)))
   ·exact q
  ·show lw (lowB v (lw s2 w) s2) v ≤ sn s2 v
   rw [hlow, if_pos rfl, s2v, ← fd.sv]; exact fd.lowle
  ·have hlt' : lw (lowB v (lw s2 w) s2) v < sn s2 v := hlt
   rw [hlow, if_pos rfl, s2v, ← fd.sv] at hlt'
   obtain ⟨y, A, b, w1, w2, w3⟩ := fd.wit hlt'
   refine ⟨y, A, b, w1, ?_, w3.mono up⟩
   show _ = lw (lowB v (lw s2 w) s2) v
   rw [hlow, if_pos rfl]; exact w2
  ·rcases cov' f hf x q1 q2 q3 q4 with (r | r) | r | r | r
   ·exact .inl r
   ·right; rw [List.flatten_append, List.flatten_append]; exact List.mem_append_left _ (List.mem_append_left _ r)
   ·right; rw [List.flatten_append]; exact List.mem_append_right _ (by simpa using (inB f).2 (.inl r))
   ·right; rw [List.flatten_append]; exact List.mem_append_right _ (by simpa using (inB f).2 (.inr r))
   ·right; rw [List.flatten_append, List.flatten_append]; exact List.mem_append_left _ (List.mem_append_right _ r)
  ·rcases covv' f hf with (r | r) | (r | r | r) | r
   ·exact .inl r
   ·right; left; rw [List.flatten_append, List.flatten_append]; exact List.mem_append_left _ (List.mem_append_left _ r)
   ·right; left; rw [List.flatten_append]; exact List.mem_append_right _ (by simpa using (inB f).2 (.inl r))
   ·right; left; rw [List.flatten_append]; exact List.mem_append_right _ (by simpa using (inB f).2 (.inr r))
   ·right; left; rw [List.flatten_append, List.flatten_append]; exact List.mem_append_left _ (List.mem_append_right _ r)
   ·exact .inr (.inr r)
  ·refine src' f ?_
   rcases hf with hf | hf
   ·exact .inl (.inl hf)
   ·rw [List.flatten_append, List.flatten_append, List.mem_append, List.mem_append] at hf
    rcases hf with (r | r) | r
    ·exact .inl (.inr r)
    ·exact .inr (.inr (.inr r))
    ·rcases (inB f).1 (by simpa using r) with r | r
     ·exact .inr (.inl r)
     ·exact .inr (.inr (.inl r))
 ·rename_i hc
  have hc' : lw s2 w < s.time + 1 := by
   have : ¬ (sn s2 v ≤ lw s2 w) := by rw [← lww]; exact hc
   omega
  obtain ⟨y, A, b, w1, w2, w3⟩ := gd.wit (by have := new2 w hwS.1 hwS.2; omega)
  rw [p1] at w2
  have hyv : y ≠ v := fun e => by rw [e, fd.sv] at w2; omega
  have hya : anc y := by
   rcases w1 with q | q
   ·exact q
   ·exact absurd q hyv
  have hys : sn s y = lw s2 w := by rw [← w2, hka y hya]
  have h0 := hp.byn y hya
  have rbe : Rel L by'.toNat e := by
   obtain ⟨Q, hQ⟩ := hp.path y hya
   exact rel_child (S := fun x => sn si x = 0 ∧ sn s2 x ≠ 0) hQ w3 hn.1 htv htw hwS (fun q => hsv0 q.1) hyv hya (fun x hx q => by rw [hka x hx] at q; exact hp.ancs x hx q.1) h0
  refine ⟨seg ++ (e :: seg2), nb ++ nb2, ⟨ok3, ?_, ?_, k0, fun x hx => ?_, fun x q1 q2 q3 => ?_, s2v, fun f hf => ?_, fun f hf x hx => ?_, fun f hf => ?_, nbn', nbi', nbr', nbs', ?_, peel0, ?_, fun hlt => ?_⟩, fun f hf x q1 q2 q3 q4 => ?_, fun f hf => ?_, fun f hf => ?_⟩
  ·show s2.opn = _
   rw [hop, fd.opn]; simp
  ·show s2.out = _
   rw [hou, fd.out]; simp
  ·rw [e2, if_neg (fun e : x = v => hx (e ▸ hp.h0)), gd.keepl x (by rw [p1, fd.keep x hx]; exact hx)]
   exact fd.keepl x hx
  ·show s.time + 1 < sn s2 x
   by_cases q4 : sn si x = 0
   ·exact new2 x q4 q2
   ·rw [k1 x q4]; exact fd.new x q1 q4 q3
  ·rcases List.mem_append.1 hf with hf | hf
   ·obtain ⟨q1, q2, x, q3, q4⟩ := fd.segn f hf
    exact ⟨q1, q2, x, up x q3, q4⟩
   ·rcases List.mem_cons.1 hf with rfl | hf
    ·exact ⟨hn, hby, v, vS, htv⟩
    ·obtain ⟨q1, q2, x, q3, q4⟩ := gd.segn f hf
     exact ⟨q1, notby f ⟨x, q3, q4⟩, x, up2 x q3, q4⟩
  ·rw [e2, if_pos rfl]
   rcases List.mem_append.1 hf with hf | hf
   ·rcases fd.segi f hf x hx with q | ⟨q, q'⟩
    ·exact .inl (up x q)
    ·exact .inr ⟨q, by omega⟩
   ·rcases List.mem_cons.1 hf with rfl | hf
    ·rcases tch_two htw htv hwv hx with rfl | rfl
     ·exact .inl (up2 _ hwS)
     ·exact .inl vS
    ·rcases gd.segi f hf x hx with q | ⟨q | q, q'⟩
     ·exact .inl (up2 x q)
     ·rw [p1, hka x q] at q'
      exact .inr ⟨q, by omega⟩
     ·rw [q]; exact .inl vS
  ·rcases List.mem_append.1 hf with hf | hf
   ·exact fd.segr f hf
   ·exact ⟨h0, rbe.trans (r2 f hf)⟩
  ·refine (List.Perm.nodup_iff ?_).2 nd0
   refine List.perm_iff_count.2 fun a => ?_
   simp only [List.flatten_append, List.count_append, List.count_cons]
   omega
  ·rw [e2, if_pos rfl]
   show _ ≤ sn s2 v
   rw [s2v]; have := fd.lowle; rw [fd.sv] at this; omega
  ·rw [e2, if_pos rfl] at hlt
   by_cases hle : lw si v ≤ lw s2 w
   ·have hl2 : lw si v < sn si v := by
     have e3 : sn (lowB v (lw s2 w) s2) v = sn s2 v := rfl
     rw [e3, s2v] at hlt; rw [fd.sv]; omega
    obtain ⟨y, A, b, w1, w2, w3⟩ := fd.wit hl2
    exact ⟨y, A, b, w1, by rw [e2, if_pos rfl, w2]; omega, w3.mono up⟩
   ·have hae : ∀ f, A f = true → f ≠ e := fun f hf q => by
     subst q
     by_cases q : f = b
     ·subst q
      rcases w3.bs v htv with q | q
      ·exact hsv0 q.1
      ·exact hyv q.symm
     ·exact hsv0 (w3.ins f hf q v htv).1
    refine ⟨y, xorA A (oneA e), b, hya, by rw [e2, if_pos rfl, hys]; omega, w3.sup.xor (SupA.one hn.1), fun T => ?_, ?_, w3.nl, w3.tb, fun f hf hne x hx => ?_, fun x hx => ?_⟩
    ·rw [cross_xor, cross_one L hn.1, w3.bd, crs_ends T htv htw (Ne.symm hwv)]; cases T y <;> cases T v <;> cases T w <;> rfl
    ·have := hae b w3.ab
     simp [xorA, oneA, w3.ab, this]
    ·by_cases q : f = e
     ·subst q
      rcases tch_two htw htv hwv hx with rfl | rfl
      ·exact up2 _ hwS
      ·exact vS
     ·have hA : A f = true := by simpa [xorA, oneA, q] using hf
      exact up2 x (w3.ins f hA hne x hx)
    ·exact (w3.bs x hx).imp (up2 x) id
  ·rcases cov' f hf x q1 q2 q3 q4 with (r | r) | r | r | r
   ·exact .inl (List.mem_append_left _ r)
   ·right; rw [List.flatten_append]; exact List.mem_append_left _ r
   ·left; exact List.mem_append_right _ (by simp [r])
   ·left; exact List.mem_append_right _ (List.mem_cons_of_mem _ r)
   ·right; rw [List.flatten_append]; exact List.mem_append_right _ r
  ·rcases covv' f hf with (r | r) | (r | r | r) | r
   ·exact .inl (List.mem_append_left _ r)
   ·right; left; rw [List.flatten_append]; exact List.mem_append_left _ r
   ·left; exact List.mem_append_right _ (by simp [r])
   ·left; exact List.mem_append_right _ (List.mem_cons_of_mem _ r)
   ·right; left; rw [List.flatten_append]; exact List.mem_append_right _ r
   ·exact .inr (.inr r)
  ·refine src' f ?_
   rcases hf with hf | hf
   ·rcases List.mem_append.1 hf with r | r
    ·exact .inl (.inl r)
    ·rcases List.mem_cons.1 r with r | r
     ·exact .inr (.inl r)
     ·exact .inr (.inr (.inl r))
   ·rw [List.flatten_append, List.mem_append] at hf
    rcases hf with r | r
    ·exact .inl (.inr r)
    ·exact .inr (.inr (.inr r))
end
end Go.Proofs.Ytgklecfiflhjmaa
namespace Go.Proofs.Ytgklecfiflhjmaa
open Go.ChangeShapes Go.WideShapes Go.ChangeAt Go.RowKit Go.Joins Go.Sp
theorem own : ownKnob Try.prog.godebug = none := by kernel_rfl
theorem laidOut : laidOutB Try.prog = true := by kernel_rfl
theorem edgeCells : IntCells Try.prog 76 3 :=
 intCells_struct Try.underlying76 (by kernel_rfl) (fun i f hf => by
  match i, hf with
  | 0, hf => obtain rfl := Option.some.inj hf; exact ⟨Try.underlying3, by kernel_rfl, rfl⟩
  | 1, hf => obtain rfl := Option.some.inj hf; exact ⟨Try.underlying3, by kernel_rfl, rfl⟩
  | 2, hf => obtain rfl := Option.some.inj hf; exact ⟨Try.underlying3, by kernel_rfl, rfl⟩
  | n + 3, hf => simp at hf)
def toE (r : List Int) : E := ⟨r.getD 0 0, r.getD 1 0, r.getD 2 0⟩
theorem eRows_of {rows : List (List Int)} (h : ∀ r, r ∈ rows → r.length = 3) : rows.map tInts = eRows (rows.map toE) := by
 simp only [eRows, List.map_map]
 refine List.map_congr_left fun r hr => ?_
 match r, h r hr with
 | [a, b, c], _ => rfl
theorem open_graph {H : Type} {enc : TypeId × Value → H} {w : World} {r : Reach} {b0 base : Nat} {spare : Nat → Bool} {held : Bool} {v : Value} {d : DataW H} {p : List MemPlace}
  (hv : Value.okWide Try.prog w r b0 24 v) (h : DataW.Trod enc Try.prog w base spare held 24 v d p) : ∃ g : G, TVRel (fun _ _ => True) w (tG g) v := by
 obtain ⟨v0, v1, y0, y1, n, rfl, -, -, h0, h1⟩ := open_agg2 Try.underlying24 (by kernel_rfl) (by kernel_rfl) hv h
 obtain ⟨m, hm, -, -⟩ := DataW.trod_int Try.underlying3 h0
 obtain rfl : v0 = .int .i64 m := by simpa using hm
 obtain ⟨rows, hr, -, ht⟩ := open_rows Try.underlying22 edgeCells (by decide) h1
 rw [eRows_of fun r hr' => (hr r hr').1] at ht
 refine ⟨⟨m, rows.map toE⟩, #[.int .i64 m, v1], rfl, rfl, fun j c u hc hu => ?_⟩
 match j, hc, hu with
 | 0, hc, hu => simp at hc hu; subst hc hu; exact .int _ _
 | 1, hc, hu => simp at hc hu; subst hc hu; exact ht
 | n + 2, hc, hu => simp at hc
end Go.Proofs.Ytgklecfiflhjmaa
