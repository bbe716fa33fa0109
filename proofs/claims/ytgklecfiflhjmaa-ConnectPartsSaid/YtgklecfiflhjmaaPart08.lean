/- A part of the proof. -/
import Derived.Test.YtgklecfiflhjmaaPart07
import Derived.Test.YtgklecfiflhjmaaPart02
import Derived.Test.YtgklecfiflhjmaaLayerC
set_option linter.all false
set_option maxHeartbeats 4000000
set_option maxRecDepth 100000
namespace Go.Proofs.Ytgklecfiflhjmaa
open Go.Sp
def iRows (l : List Int) : List (List Tree) := l.map fun x => [.int .i64 x]
def tints (l : List Int) : TVal := .t (.slice (iRows l))
attribute [go_sem] tints
theorem iRows_len (l : List Int) : (iRows l).length = l.length := by simp [iRows]
theorem iRows_get {l : List Int} {i : Nat} {x : Int} (h : l[i]? = some x) : (iRows l)[i]? = some [.int .i64 x] := by simp [iRows, h]
theorem iRows_k' {l : List Int} {r : List Tree} (h : r ∈ iRows l) : r.length = 1 := by
 obtain ⟨x, _, rfl⟩ := List.mem_map.1 h; rfl
theorem iRows_snoc (l : List Int) (a : Int) : iRows l ++ [[.int .i64 a]] = iRows (l ++ [a]) := by simp [iRows]
theorem Size_ok (g : G) (hl : g.es.length < 2 ^ 30) : ACall Try.prog 69 [tG g] (.tup [tint (if checkG g ≠ 0 then 0 else (endsL g.es).length), tint (checkG g)]) := by
 have h := Ends_ok g hl
 by_cases hc : checkG g ≠ 0
 ·rw [if_pos hc] at h ⊢
  refine ACall.of_body Try.func69 rfl (by kernel_rfl) ?_
  simp only [entry, Try.ntmps69, tG]
  refine zU ?_
  refine zR trivial (zc h trivial) trivial ?_
  simp [Rets, aret, Blk.cells, ty, Try.results69, ares, toT1, toT, borrow, borrow0, capCell, toTree0, tint]
 ·rw [if_neg hc] at h ⊢
  refine ACall.of_body Try.func69 rfl (by kernel_rfl) ?_
  simp only [entry, Try.ntmps69, tG]
  refine zU ?_
  refine zR (zc @pRows_len trivial) (zc h trivial) trivial ?_
  have e : checkG g = 0 := by omega
  simp [Rets, aret, Blk.cells, ty, Try.results69, ares, toT1, toT, borrow, borrow0, capCell, toTree0, tint, e]
def idxI : List Int → Int → Int
 | [], _ => -1
 | x :: xs, v => if x = v then 0 else if idxI xs v < 0 then -1 else idxI xs v + 1
theorem idxI_ge (l : List Int) (v : Int) : -1 ≤ idxI l v := by
 induction l with
 | nil => simp [idxI]
 | cons x xs ih => simp only [idxI]; (repeat' split) <;> omega
theorem idxI_drop {l : List Int} {v : Int} : ∀ {k : Nat}, (∀ j, j < k → ∀ x, l[j]? = some x → x ≠ v) → k ≤ l.length → idxI l v = if idxI (l.drop k) v < 0 then -1 else idxI (l.drop k) v + k := by
 induction l with
 | nil => intro k _ hk; simp [idxI]
 | cons x xs ih =>
  intro k h hk
  cases k with
  | zero => have := idxI_ge (x :: xs) v; simp only [List.drop_zero, Int.natCast_zero]; split <;> omega
  | succ k =>
   have h0 := h 0 (by omega) x rfl
   have := ih (k := k) (fun j hj y hy => h (j + 1) (by omega) y (by simpa using hy)) (by simpa using hk)
   simp only [idxI, List.drop_succ_cons, if_neg h0, this]
   have h1 := idxI_ge (xs.drop k) v
   (repeat' split) <;> omega
theorem idxI_hit {l : List Int} {v : Int} {k : Nat} (h : ∀ j, j < k → ∀ x, l[j]? = some x → x ≠ v) (hk : k < l.length) (e : l[k] = v) : idxI l v = k := by
 rw [idxI_drop h (by omega), List.drop_eq_getElem_cons hk, idxI, if_pos e]; simp
theorem idxI_miss {l : List Int} {v : Int} (h : ∀ j, j < l.length → ∀ x, l[j]? = some x → x ≠ v) : idxI l v = -1 := by
 rw [idxI_drop h (Nat.le_refl _), List.drop_length]; simp [idxI]
theorem Index_ok (l : List Int) (v : Int) (hl : l.length < 2 ^ 40) : ACall Try.prog 66 [tints l, tint v] (tint (idxI l v)) := by
 refine ACall.of_body Try.func66 rfl (by kernel_rfl) ?_
 simp only [entry, Try.ntmps66, tints, tint]
 refine zU ?_
 refine zR (zc @iRows_len trivial) trivial trivial ?_
 refine AWp.loopS (α:=Nat) 19 (fun k=>[(0,.c (.slice (iRows l) .none)),(1,.c (.int .i64 v)),(7,.c (.int .i64 l.length)),(8,.c (.int .i64 (k : Int)))]) (fun k=>[]) (fun k=>k ≤ l.length ∧ ∀ j, j < k → ∀ x, l[j]? = some x → x ≠ v) (fun k=>l.length - k) (0) (hk:=Weak.headL 0 19 [0, 1, 7, 8] zW) (h0:=?_) (round:=fun k hI=>?_)
 ·exact ⟨Nat.zero_le _, fun j hj => by omega⟩
 ·obtain ⟨hk, hx⟩ := hI
  by_cases hlt : k < l.length
  ·have e1 := iRows_get (List.getElem?_eq_getElem hlt)
   repeat' (first|((first|(refine zT ?_;intro K' hK')|(refine zG ?_ ?_<;>(try refine zH ?_)<;>intro hguard<;>(try exact zX)<;>try intro K' hK'))<;>((try simp +contextual only [go_sem, e1, Int.toNat_natCast, Int.ofNat_lt]);(repeat' first|(with_reducible refine hK' _ _ ?_;clear hK' K')|exact zY|with_reducible refine And.intro ?_ ?_|(with_reducible intro hpath;try exact zP)|(refine hK' _ _ ?_;clear hK' K')|fail);try refine zS ?_))|(refine zE ?_;refine hK _ _ ?_;clear hK K)|(refine zN ?_;try refine zS ?_)|refine zA ?_|(refine zB ?_;intro K hK)|(refine zC ?_ ?_<;>(try refine zH ?_)<;>intro hcond<;>try exact zX)|fail)
   ·have hv : idxI l v = k := idxI_hit hx hlt (by omega)
    simp [Rets, aret, Blk.cells, ty, Try.results66, ares, toT1, toT, borrow, borrow0, capCell, toTree0, tint, hv]
   ·refine ⟨k + 1,Weak.headN 0 19 [0, 1, 7, 8] zW,?_,?_⟩
    ·refine ⟨hlt, fun j hj x hjx => ?_⟩
     by_cases hjk : j = k
     ·subst hjk; rw [List.getElem?_eq_getElem hlt] at hjx; cases hjx; omega
     ·exact hx j (by omega) x hjx
    ·omega
  ·have hv : idxI l v = -1 := idxI_miss (fun j hj => hx j (by omega))
   refine zR (zc @Int.ofNat_lt trivial) trivial trivial ?_
   simp [Rets, aret, Blk.cells, ty, Try.results66, ares, toT1, toT, borrow, borrow0, capCell, toTree0, tint, hv]
theorem idxI_mem (l : List Int) (v : Int) : 0 ≤ idxI l v ↔ v ∈ l := by
 induction l with
 | nil => simp [idxI]
 | cons x xs ih =>
  simp only [idxI, List.mem_cons]
  have h1 := idxI_ge xs v
  by_cases h : x = v
  ·simp [h]
  ·rw [if_neg h]
   have : ¬ v = x := fun e => h e.symm
   simp only [this, false_or, ← ih]
   split <;> omega
theorem Contains_ok (l : List Int) (v : Int) (hl : l.length < 2 ^ 40) : ACall Try.prog 28 [tints l, tint v] (tbool (decide (v ∈ l))) := by
 have e := idxI_mem l v
 refine ACall.of_body Try.func28 rfl (by kernel_rfl) ?_
 simp only [entry, Try.ntmps28, tints, tint]
 refine zU ?_
 refine zR trivial (zc (Index_ok l v hl) trivial) trivial ?_
 simp [Rets, aret, Blk.cells, ty, Try.results28, ares, toT1, toT, borrow, borrow0, capCell, toTree0, tbool, e]
theorem Equal_ok (l m : List Int) (hl : l.length < 2 ^ 40) (hm : m.length < 2 ^ 40) : ACall Try.prog 15 [tints l, tints m] (tbool (decide (l = m))) := by
 refine ACall.of_body Try.func15 rfl (by kernel_rfl) ?_
 simp only [entry, Try.ntmps15, tints]
 refine zU ?_
 repeat' (first|((first|(refine zT ?_;intro K' hK')|(refine zG ?_ ?_<;>(try refine zH ?_)<;>intro hguard<;>(try exact zX)<;>try intro K' hK'))<;>((try simp +contextual only [go_sem, iRows_len]);(repeat' first|(with_reducible refine hK' _ _ ?_;clear hK' K')|exact zY|with_reducible refine And.intro ?_ ?_|(with_reducible intro hpath;try exact zP)|(refine hK' _ _ ?_;clear hK' K')|fail);try refine zS ?_))|(refine zE ?_;refine hK _ _ ?_;clear hK K)|(refine zN ?_;try refine zS ?_)|refine zA ?_|(refine zB ?_;intro K hK)|(refine zC ?_ ?_<;>(try refine zH ?_)<;>intro hcond<;>try exact zX)|fail)
 ·have e : ¬ l = m := fun e => by subst e; omega
  simp [Rets, aret, Blk.cells, ty, Try.results15, ares, toT1, toT, borrow, borrow0, capCell, toTree0, tbool, e]
 ·have hlm : l.length = m.length := by omega
  refine AWp.loopS (α:=Nat) 26 (fun k=>[(0,.c (.slice (iRows l) .none)),(1,.c (.slice (iRows m) .none)),(12,.c (.int .i64 l.length)),(13,.c (.int .i64 (k : Int)))]) (fun k=>[]) (fun k=>k ≤ l.length ∧ ∀ j, j < k → l[j]? = m[j]?) (fun k=>l.length - k) (0) (hk:=Weak.headL 0 26 [0, 1, 12, 13] zW) (h0:=?_) (round:=fun k hI=>?_)
  ·exact ⟨Nat.zero_le _, fun j hj => by omega⟩
  ·obtain ⟨hk, hx⟩ := hI
   by_cases hlt : k < l.length
   ·have hlt2 : k < m.length := by omega
    have e1 := iRows_get (List.getElem?_eq_getElem hlt)
    have e2 := iRows_get (List.getElem?_eq_getElem hlt2)
    repeat' (first|((first|(refine zT ?_;intro K' hK')|(refine zG ?_ ?_<;>(try refine zH ?_)<;>intro hguard<;>(try exact zX)<;>try intro K' hK'))<;>((try simp +contextual only [go_sem, e1, e2, Int.toNat_natCast, Int.ofNat_lt]);(repeat' first|(with_reducible refine hK' _ _ ?_;clear hK' K')|exact zY|with_reducible refine And.intro ?_ ?_|(with_reducible intro hpath;try exact zP)|(refine hK' _ _ ?_;clear hK' K')|fail);try refine zS ?_))|(refine zE ?_;refine hK _ _ ?_;clear hK K)|(refine zN ?_;try refine zS ?_)|refine zA ?_|(refine zB ?_;intro K hK)|(refine zC ?_ ?_<;>(try refine zH ?_)<;>intro hcond<;>try exact zX)|fail)
    ·have e : ¬ l = m := fun e => by subst e; omega
     simp [Rets, aret, Blk.cells, ty, Try.results15, ares, toT1, toT, borrow, borrow0, capCell, toTree0, tbool, e]
    ·refine ⟨k + 1,Weak.headN 0 26 [0, 1, 12, 13] zW,?_,?_⟩
     ·refine ⟨hlt, fun j hj => ?_⟩
      by_cases hjk : j = k
      ·subst hjk; rw [List.getElem?_eq_getElem hlt, List.getElem?_eq_getElem hlt2]; congr 1
      ·exact hx j (by omega)
     ·omega
   ·have e : l = m := List.ext_getElem? fun j => by
     by_cases hj : j < l.length
     ·exact hx j (by omega)
     ·rw [List.getElem?_eq_none (by omega), List.getElem?_eq_none (by omega)]
    refine zR (zc @Int.ofNat_lt trivial) trivial trivial ?_
    simp [Rets, aret, Blk.cells, ty, Try.results15, ares, toT1, toT, borrow, borrow0, capCell, toTree0, tbool, e]
open Go.Sort (SWO)
instance : Inhabited E := ⟨⟨0, 0, 0⟩⟩
def cmpP (a b c d : Int) : Int := orI [cmpI a c, cmpI b d]
def cfE (x y : E) : Int := cmpP x.a x.b y.a y.b
theorem ltOf_cfE (x y : E) : Go.Proofs.ltOf cfE x y = true ↔ ltE x y := by
 unfold Go.Proofs.ltOf cfE cmpP orI orI cmpI ltE
 simp only [decide_eq_true_eq]
 (repeat' split) <;> simp_all [orI] <;> omega
theorem swoE : SWO (Go.Proofs.ltOf cfE) where
 irrefl x := by
  rw [← Bool.not_eq_true, ltOf_cfE]; unfold ltE; omega
 trans x y z h1 h2 := by
  rw [ltOf_cfE] at *; unfold ltE at *; omega
 ntrans x y z h1 h2 := by
  rw [← Bool.not_eq_true, ltOf_cfE] at *; unfold ltE at *; omega
noncomputable def sortE (es : List E) : List E := sortL cfE es
def neE (x y : E) : Prop := ¬ (x.a = y.a ∧ x.b = y.b)
theorem neE.symm {x y : E} (h : neE x y) : neE y x := by unfold neE at *; omega
def distinctE (es : List E) : Prop := es.Pairwise neE
theorem sortE_perm (es : List E) : (sortE es).Perm es := (sortL_spec swoE es).1
theorem sortE_sorted {es : List E} (h : distinctE es) : (sortE es).Pairwise ltE := by
 have h1 : distinctE (sortE es) := (List.Perm.pairwise_iff neE.symm (sortE_perm es)).2 h
 unfold distinctE at h1
 rw [List.pairwise_iff_getElem] at h1 ⊢
 intro i j hi hj hij
 have h2 := (sortL_spec swoE es).2 i j _ _ hij (List.getElem?_eq_getElem hi) (List.getElem?_eq_getElem hj)
 rw [← Bool.not_eq_true, ltOf_cfE] at h2
 have h3 := h1 i j hi hj hij
 unfold ltE neE at *
 simp only [sortE] at *
 omega
theorem sorted_unique {l l' : List E} (h : l.Pairwise ltE) (h' : l'.Pairwise ltE) (hp : l.Perm l') : l = l' :=
 List.Perm.eq_of_pairwise (le := ltE) (fun a b _ _ h1 h2 => by unfold ltE at *; omega) h h' hp
end Go.Proofs.Ytgklecfiflhjmaa
namespace Go.Proofs.Ytgklecfiflhjmaa
open Go.Sp
set_option maxHeartbeats 1000000
structure PreV (L : List (Nat × Nat)) (v : Nat) (by' : Int) (anc : Nat → Prop) (s : BS) : Prop where
 ok : BOK L.length s
 hv : v < 12
 h0 : sn s v = 0
 ancs : ∀ y, anc y → sn s y ≠ 0
 fin : ∀ e, NL L e → ∀ x z, tch L e x → tch L e z → sn s x ≠ 0 → ¬ anc x → sn s z ≠ 0
 path : ∀ y, anc y → ∃ Q, PathA L anc v by' y Q
 byq : ∀ e : Nat, (e : Int) = by' → ∀ x, tch L e x → x = v ∨ anc x
 byn : ∀ y, anc y → 0 ≤ by'
structure Fnd (L : List (Nat × Nat)) (v : Nat) (by' : Int) (anc : Nat → Prop) (s si : BS) (seg : List Nat) (nb : List (List Nat)) : Prop where
 ok : BOK L.length si
 opn : si.opn = s.opn ++ seg
 out : si.out = s.out ++ nb
 keep : ∀ x, sn s x ≠ 0 → sn si x = sn s x
 keepl : ∀ x, sn s x ≠ 0 → lw si x = lw s x
 new : ∀ x, sn s x = 0 → sn si x ≠ 0 → x ≠ v → s.time + 1 < sn si x
 sv : sn si v = s.time + 1
 segn : ∀ e, e ∈ seg → NL L e ∧ (e : Int) ≠ by' ∧ ∃ x, (sn s x = 0 ∧ sn si x ≠ 0) ∧ tch L e x
 segi : ∀ e, e ∈ seg → ∀ x, tch L e x → (sn s x = 0 ∧ sn si x ≠ 0) ∨ (anc x ∧ lw si v ≤ sn s x)
 segr : ∀ e, e ∈ seg → 0 ≤ by' ∧ Rel L by'.toNat e
 nbn : ∀ B, B ∈ nb → ∀ e, e ∈ B → NL L e ∧ (e : Int) ≠ by' ∧ ∃ x, (sn s x = 0 ∧ sn si x ≠ 0) ∧ tch L e x
 nbi : ∀ B, B ∈ nb → ∀ e, e ∈ B → ∀ x, tch L e x → (sn s x = 0 ∧ sn si x ≠ 0)
 nbr : ∀ B, B ∈ nb → B ≠ [] ∧ ∀ e, e ∈ B → ∀ f, f ∈ B → Rel L e f
 nbs : ∀ B, B ∈ nb → B.Pairwise (· < ·)
 nd : (seg ++ nb.flatten).Nodup
 peel : ∀ (j : Nat) B, nb[j]? = some B → ∃ a, ∀ x f g, f ∈ B → tch L f x → NL L g → g ∉ (nb.take (j + 1)).flatten → tch L g x → x = a
 lowle : lw si v ≤ sn si v
 wit : lw si v < sn si v → ∃ y A b, anc y ∧ sn s y = lw si v ∧ Wit L (fun x => sn s x = 0 ∧ sn si x ≠ 0) v y A b
structure Md (L : List (Nat × Nat)) (v : Nat) (by' : Int) (anc : Nat → Prop) (s : BS) (i : Nat) (si : BS) (seg : List Nat) (nb : List (List Nat)) : Prop where
 fd : Fnd L v by' anc s si seg nb
 cov : ∀ e, NL L e → ∀ x, sn s x = 0 → sn si x ≠ 0 → x ≠ v → tch L e x → e ∈ seg ∨ e ∈ nb.flatten
 covv : ∀ e, e ∈ (atV L v).take i → e ∈ seg ∨ e ∈ nb.flatten ∨ (e : Int) = by'
 src : ∀ e, e ∈ seg ∨ e ∈ nb.flatten → (∃ x, sn s x = 0 ∧ sn si x ≠ 0 ∧ x ≠ v ∧ tch L e x) ∨ e ∈ (atV L v).take i
structure VS (L : List (Nat × Nat)) (v : Nat) (by' : Int) (anc : Nat → Prop) (s s' : BS) (seg : List Nat) (nb : List (List Nat)) : Prop where
 fd : Fnd L v by' anc s s' seg nb
 cov : ∀ e, NL L e → ∀ x, sn s x = 0 → sn s' x ≠ 0 → tch L e x → e ∈ seg ∨ e ∈ nb.flatten ∨ (e : Int) = by'
section
variable {L : List (Nat × Nat)} {v : Nat} {by' : Int} {anc : Nat → Prop} {s si : BS} {seg : List Nat} {nb : List (List Nat)} {i : Nat}
theorem PreV.ancne (h : PreV L v by' anc s) {y : Nat} (hy : anc y) : y ≠ v := fun e => h.ancs y hy (e ▸ h.h0)
theorem PreV.le (h : PreV L v by' anc s) (x : Nat) : sn s x ≤ s.time := getD_le h.ok.sb
theorem Md.zero (h : PreV L v by' anc s) : Md L v by' anc s 0 (enterB v s) [] [] := by
 have hls := h.ok.ls
 have hll := h.ok.ll
 have e1 : ∀ x, sn (enterB v s) x = if x = v then s.time + 1 else sn s x := fun x => sn_set (by rw [hls]; exact h.hv)
 have e2 : ∀ x, lw (enterB v s) x = if x = v then s.time + 1 else lw s x := fun x => sn_set (by rw [hll]; exact h.hv)
 refine ⟨⟨(enterB_ok h.ok h.hv h.h0).1, by simp [enterB], by simp [enterB], fun x hx => ?_, fun x hx => ?_, fun x hx hx2 hne => ?_, by rw [e1, if_pos rfl], by simp, by simp, by simp, by simp, by simp, by simp, by simp, by simp, by simp, ?_, fun hlt => ?_⟩, fun e he x hx hx2 hne => ?_, by simp, by simp⟩
 ·rw [e1, if_neg (fun e : x = v => hx (e ▸ h.h0))]
 ·rw [e2, if_neg (fun e : x = v => hx (e ▸ h.h0))]
 ·rw [e1, if_neg hne] at hx2; exact absurd hx hx2
 ·rw [e1, e2, if_pos rfl, if_pos rfl]; exact Nat.le_refl _
 ·rw [e1, e2, if_pos rfl, if_pos rfl] at hlt; omega
 ·rw [e1, if_neg hne] at hx2; exact absurd hx hx2
theorem Md.done (h : Md L v by' anc s (atV L v).length si seg nb) : VS L v by' anc s si seg nb := by
 refine ⟨h.fd, fun e he x hx hx2 ht => ?_⟩
 by_cases hxv : x = v
 ·subst hxv
  refine h.covv e ?_
  rw [List.take_length]; exact atV_iff.2 ⟨he, ht⟩
 ·rcases h.cov e he x hx hx2 hxv ht with q | q
  ·exact .inl q
  ·exact .inr (.inl q)
theorem atV_at {e : Nat} (hi : i < (atV L v).length) (he : (atV L v)[i] = e) : (atV L v).take (i + 1) = (atV L v).take i ++ [e] ∧ e ∉ (atV L v).take i := by
 refine ⟨by rw [List.take_succ_eq_append_getElem hi, he], fun hm => ?_⟩
 obtain ⟨j, hj, e2⟩ := List.mem_iff_getElem.1 hm
 rw [List.length_take] at hj
 rw [List.getElem_take] at e2
 have hp := List.pairwise_iff_getElem.1 (atV_nodup L v) j i (by omega) hi (by omega)
 exact hp (e2.trans he.symm)
theorem Md.skip {e : Nat} (h : Md L v by' anc s i si seg nb) (hi : i < (atV L v).length) (he : (atV L v)[i] = e) (hc : e ∈ seg ∨ e ∈ nb.flatten ∨ (e : Int) = by') : Md L v by' anc s (i + 1) si seg nb := by
 obtain ⟨t1, t2⟩ := atV_at hi he
 refine ⟨h.fd, h.cov, fun f hf => ?_, fun f hf => ?_⟩
 ·rw [t1] at hf
  rcases List.mem_append.1 hf with hf | hf
  ·exact h.covv f hf
  ·rw [List.mem_singleton.1 hf]; exact hc
 ·rcases h.src f hf with q | q
  ·exact .inl q
  ·right; rw [t1]; exact List.mem_append_left _ q
theorem Wit.mono {S S' : Nat → Prop} {y b : Nat} {A : Nat → Bool} (h : Wit L S v y A b) (hs : ∀ x, S x → S' x) : Wit L S' v y A b :=
 ⟨h.sup, h.bd, h.ab, h.nl, h.tb, fun e h1 h2 x h3 => hs x (h.ins e h1 h2 x h3), fun x hx => (h.bs x hx).imp (hs x) id⟩
theorem Md.back (hp : PreV L v by' anc s) {e u : Nat} (h : Md L v by' anc s i si seg nb) (hi : i < (atV L v).length) (he : (atV L v)[i] = e) (hby : (e : Int) ≠ by') (hu : anc u) (htu : tch L e u) :
  Md L v by' anc s (i + 1) (lowB v (sn si u) (pushB e si)) (seg ++ [e]) nb := by
 obtain ⟨t1, t2⟩ := atV_at hi he
 obtain ⟨hn, htv⟩ := atV_iff.1 (by rw [← he]; exact List.getElem_mem hi : e ∈ atV L v)
 have huv := hp.ancne hu
 have fd := h.fd
 have hok := pushB_ok fd.ok hn.1
 have hsu : sn si u = sn s u := fd.keep u (hp.ancs u hu)
 have e2 : ∀ x, lw (lowB v (sn si u) (pushB e si)) x = if x = v then min (lw si v) (sn si u) else lw si x := fun x => sn_set (by rw [hok.ll]; exact hp.hv)
 have e1 : ∀ x, sn (lowB v (sn si u) (pushB e si)) x = sn si x := fun _ => rfl
 have hsv0 : sn si v ≠ 0 := by rw [fd.sv]; omega
 have hlu : sn s u ≤ s.time := hp.le u
 have hnew : e ∉ seg ∧ e ∉ nb.flatten := by
  refine not_or.1 fun q => ?_
  rcases h.src e q with ⟨x, hx1, hx2, hx3, hx4⟩ | q
  ·rcases tch_two htu htv huv hx4 with rfl | rfl
   ·exact hp.ancs _ hu hx1
   ·exact hx3 rfl
  ·exact t2 q
 refine ⟨⟨lowB_ok hok (getD_le fd.ok.sb), by simp [lowB, pushB, fd.opn], fd.out, fd.keep, fun x hx => ?_, fd.new, fd.sv, fun f hf => ?_, fun f hf x hx => ?_, fun f hf => ?_, fd.nbn, fd.nbi, fd.nbr, fd.nbs, ?_, fd.peel, ?_, fun hlt => ?_⟩, fun f hf x hx hx2 hne ht => ?_, fun f hf => ?_, fun f hf => ?_⟩
 ·rw [e2, if_neg (fun e : x = v => hx (e ▸ hp.h0))]; exact fd.keepl x hx
 ·rcases List.mem_append.1 hf with hf | hf
  ·exact fd.segn f hf
  ·rw [List.mem_singleton.1 hf]
   exact ⟨hn, hby, v, ⟨hp.h0, hsv0⟩, htv⟩
 ·rw [e2, if_pos rfl]
  rcases List.mem_append.1 hf with hf | hf
  ·rcases fd.segi f hf x hx with q | ⟨q1, q2⟩
   ·exact .inl q
   ·exact .inr ⟨q1, by omega⟩
  ·rw [List.mem_singleton.1 hf] at hx
   rcases tch_two htu htv huv hx with rfl | rfl
   ·exact .inr ⟨hu, by omega⟩
   ·exact .inl ⟨hp.h0, hsv0⟩
 ·have h0 := hp.byn u hu
  rcases List.mem_append.1 hf with hf | hf
  ·exact fd.segr f hf
  ·rw [List.mem_singleton.1 hf]
   obtain ⟨Q, hQ⟩ := hp.path u hu
   exact ⟨h0, rel_back hQ hn.1 htu htv huv hby h0⟩
 ·have := fd.nd
  rw [List.append_assoc]
  rw [List.nodup_append] at this ⊢
  obtain ⟨a1, a2, a3⟩ := this
  refine ⟨a1, ?_, fun x hx y hy => ?_⟩
  ·rw [List.singleton_append, List.nodup_cons]; exact ⟨hnew.2, a2⟩
  ·rw [List.singleton_append, List.mem_cons] at hy
   rcases hy with rfl | hy
   ·rintro rfl; exact hnew.1 hx
   ·exact a3 x hx y hy
 ·rw [e2, if_pos rfl, e1]; have := fd.lowle; omega
 ·rw [e2, if_pos rfl, e1] at hlt
  by_cases hle : lw si v ≤ sn si u
  ·obtain ⟨y, A, b, w1, w2, w3⟩ := fd.wit (by omega)
   exact ⟨y, A, b, w1, by rw [e2, if_pos rfl, w2]; omega, w3⟩
  ·refine ⟨u, oneA e, e, hu, by rw [e2, if_pos rfl]; omega, SupA.one hn.1, fun T => ?_, by simp [oneA], hn, htu, fun f hf hne => ?_, fun x hx => ?_⟩
   ·rw [cross_one L hn.1, crs_ends T htu htv huv]; cases T u <;> cases T v <;> rfl
   ·simp [oneA] at hf; exact absurd hf hne
   ·rcases tch_two htu htv huv hx with rfl | rfl
    ·exact .inr rfl
    ·exact .inl ⟨hp.h0, hsv0⟩
 ·rcases h.cov f hf x hx hx2 hne ht with q | q
  ·exact .inl (List.mem_append_left _ q)
  ·exact .inr q
 ·rw [t1] at hf
  rcases List.mem_append.1 hf with hf | hf
  ·rcases h.covv f hf with q | q
   ·exact .inl (List.mem_append_left _ q)
   ·exact .inr q
  ·exact .inl (List.mem_append_right _ hf)
 ·rw [t1]
  rcases hf with hf | hf
  ·rcases List.mem_append.1 hf with hf | hf
   ·rcases h.src f (.inl hf) with q | q
    ·exact .inl q
    ·exact .inr (List.mem_append_left _ q)
   ·exact .inr (List.mem_append_right _ hf)
  ·rcases h.src f (.inr hf) with q | q
   ·exact .inl q
   ·exact .inr (List.mem_append_left _ q)
end
end Go.Proofs.Ytgklecfiflhjmaa
