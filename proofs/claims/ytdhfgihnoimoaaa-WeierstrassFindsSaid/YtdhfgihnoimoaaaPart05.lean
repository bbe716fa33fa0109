/- A part of the proof. -/
import Derived.Test.YtdhfgihnoimoaaaPart04
import Derived.Test.YtdhfgihnoimoaaaPart02
import Derived.Test.YtdhfgihnoimoaaaLayerC
import Derived.Test.YtdhfgihnoimoaaaPart01
import Derived.Shelf.SlSortCmp.NoneTotal
import Derived.Test.YtdhfgihnoimoaaaSpOpen
import Derived.Test.YtdhfgihnoimoaaaRows
import Derived.WalkKit
import Derived.ProofKit
import Derived.OpenShut
import Derived.ShutString
import Derived.ChangeOld
import Derived.Below
import Derived.Lib.SmallJoins
set_option linter.all false
set_option maxHeartbeats 4000000
set_option maxRecDepth 100000
namespace Go.Proofs.Ytdhfgihnoimoaaa
open Go.Sp
def iRows (l : List Int) : List (List Tree) := l.map fun x => [.int .i64 x]
def tints (l : List Int) : TVal := .t (.slice (iRows l))
attribute [go_sem] tints
theorem iRows_len (l : List Int) : (iRows l).length = l.length := by simp [iRows]
theorem iRows_get {l : List Int} {i : Nat} {x : Int} (h : l[i]? = some x) : (iRows l)[i]? = some [.int .i64 x] := by simp [iRows, h]
theorem iRows_k' {l : List Int} {r : List Tree} (h : r ∈ iRows l) : r.length = 1 := by
 obtain ⟨x, _, rfl⟩ := List.mem_map.1 h; rfl
theorem iRows_snoc (l : List Int) (a : Int) : iRows l ++ [[.int .i64 a]] = iRows (l ++ [a]) := by simp [iRows]
theorem Equal_ok (l m : List Int) (hl : l.length < 2 ^ 40) (hm : m.length < 2 ^ 40) : ACall Try.prog 13 [tints l, tints m] (tbool (decide (l = m))) := by
 refine ACall.of_body Try.func13 rfl (by kernel_rfl) ?_
 simp only [entry, Try.ntmps13, tints]
 refine zU ?_
 repeat' (first|((first|(refine zT ?_;intro K' hK')|(refine zG ?_ ?_<;>(try refine zH ?_)<;>intro hguard<;>(try exact zX)<;>try intro K' hK'))<;>((try simp +contextual only [go_sem, iRows_len]);(repeat' first|(with_reducible refine hK' _ _ ?_;clear hK' K')|exact zY|with_reducible refine And.intro ?_ ?_|(with_reducible intro hpath;try exact zP)|(refine hK' _ _ ?_;clear hK' K')|fail);try refine zS ?_))|(refine zE ?_;refine hK _ _ ?_;clear hK K)|(refine zN ?_;try refine zS ?_)|refine zA ?_|(refine zB ?_;intro K hK)|(refine zC ?_ ?_<;>(try refine zH ?_)<;>intro hcond<;>try exact zX)|fail)
 ·have e : ¬ l = m := fun e => by subst e; omega
  simp [Rets, aret, Blk.cells, ty, Try.results13, ares, toT1, toT, borrow, borrow0, capCell, toTree0, tbool, e]
 ·have hlm : l.length = m.length := by omega
  refine AWp.loopS (α:=Nat) 26 (fun k=>[(0,.c (.slice (iRows l) .none)),(1,.c (.slice (iRows m) .none)),(12,.c (.int .i64 l.length)),(13,.c (.int .i64 (k : Int)))]) (fun k=>[]) (fun k=>k ≤ l.length ∧ ∀ j, j < k → l[j]? = m[j]?) (fun k=>l.length - k) (0) (hk:=Weak.headL 0 26 [0, 1, 12, 13] zW) (h0:=?_) (round:=fun k hI=>?_)
  ·exact ⟨Nat.zero_le _, fun j hj => by omega⟩
  ·obtain ⟨hk, hx⟩ := hI
   by_cases hlt : k < l.length
   ·have hlt2 : k < m.length := by omega
    have e1 := iRows_get (List.getElem?_eq_getElem hlt)
    have e2 := iRows_get (List.getElem?_eq_getElem hlt2)
    repeat' (first|((first|(refine zT ?_;intro K' hK')|(refine zG ?_ ?_<;>(try refine zH ?_)<;>intro hguard<;>(try exact zX)<;>try intro K' hK'))<;>((try simp +contextual only [go_sem, e1, e2, Int.toNat_natCast, Int.ofNat_lt]);(repeat' first|(with_reducible refine hK' _ _ ?_;clear hK' K')|exact zY|with_reducible refine And.intro ?_ ?_|(with_reducible intro hpath;try exact zP)|(refine hK' _ _ ?_;clear hK' K')|fail);try refine zS ?_))|(refine zE ?_;refine hK _ _ ?_;clear hK K)|(refine zN ?_;try refine zS ?_)|refine zA ?_|(refine zB ?_;intro K hK)|(refine zC ?_ ?_<;>(try refine zH ?_)<;>intro hcond<;>try exact zX)|fail)
    ·have e : ¬ l = m := fun e => by subst e; omega
     simp [Rets, aret, Blk.cells, ty, Try.results13, ares, toT1, toT, borrow, borrow0, capCell, toTree0, tbool, e]
    ·refine ⟨k + 1,Weak.headN 0 26 [0, 1, 12, 13] zW,?_,?_⟩
     ·refine ⟨hlt, fun j hj => ?_⟩
      by_cases hjk : j = k
      ·subst hjk; rw [List.getElem?_eq_getElem hlt, List.getElem?_eq_getElem hlt2]; congr 1
      ·exact hx j (by omega)
     ·omega
   ·have e : l = m := List.ext_getElem? fun j => by
     by_cases hj : j < l.length
     ·exact hx j (by omega)
     ·rw [List.getElem?_eq_none (by omega), List.getElem?_eq_none (by omega)]
    refine zR (zc @Int.ofNat_lt trivial) trivial trivial ?_
    simp [Rets, aret, Blk.cells, ty, Try.results13, ares, toT1, toT, borrow, borrow0, capCell, toTree0, tbool, e]
open Go.Sort (SWO)
instance : Inhabited E := ⟨⟨0, 0, 0⟩⟩
def neE (x y : E) : Prop := ¬ (x.a = y.a ∧ x.b = y.b)
def distinctE (es : List E) : Prop := es.Pairwise neE
end Go.Proofs.Ytdhfgihnoimoaaa
namespace Go.Proofs.Ytdhfgihnoimoaaa
open Go.Sp
set_option maxHeartbeats 1000000
structure PreV (L : List (Nat × Nat)) (v : Nat) (by' : Int) (anc : Nat → Prop) (s : BS) : Prop where
 ok : BOK L.length s
 hv : v < 12
 h0 : sn s v = 0
 ancs : ∀ y, anc y → sn s y ≠ 0
 fin : ∀ e, NL L e → ∀ x z, tch L e x → tch L e z → sn s x ≠ 0 → ¬ anc x → sn s z ≠ 0
 path : ∀ y, anc y → ∃ Q, PathA L anc v by' y Q
 byq : ∀ e : Nat, (e : Int) = by' → ∀ x, tch L e x → x = v ∨ anc x
 byn : ∀ y, anc y → 0 ≤ by'
structure Fnd (L : List (Nat × Nat)) (v : Nat) (by' : Int) (anc : Nat → Prop) (s si : BS) (seg : List Nat) (nb : List (List Nat)) : Prop where
 ok : BOK L.length si
 opn : si.opn = s.opn ++ seg
 out : si.out = s.out ++ nb
 keep : ∀ x, sn s x ≠ 0 → sn si x = sn s x
 keepl : ∀ x, sn s x ≠ 0 → lw si x = lw s x
 new : ∀ x, sn s x = 0 → sn si x ≠ 0 → x ≠ v → s.time + 1 < sn si x
 sv : sn si v = s.time + 1
 segn : ∀ e, e ∈ seg → NL L e ∧ (e : Int) ≠ by' ∧ ∃ x, (sn s x = 0 ∧ sn si x ≠ 0) ∧ tch L e x
 segi : ∀ e, e ∈ seg → ∀ x, tch L e x → (sn s x = 0 ∧ sn si x ≠ 0) ∨ (anc x ∧ lw si v ≤ sn s x)
 segr : ∀ e, e ∈ seg → 0 ≤ by' ∧ Rel L by'.toNat e
 nbn : ∀ B, B ∈ nb → ∀ e, e ∈ B → NL L e ∧ (e : Int) ≠ by' ∧ ∃ x, (sn s x = 0 ∧ sn si x ≠ 0) ∧ tch L e x
 nbi : ∀ B, B ∈ nb → ∀ e, e ∈ B → ∀ x, tch L e x → (sn s x = 0 ∧ sn si x ≠ 0)
 nbr : ∀ B, B ∈ nb → B ≠ [] ∧ ∀ e, e ∈ B → ∀ f, f ∈ B → Rel L e f
 nbs : ∀ B, B ∈ nb → B.Pairwise (· < ·)
 nd : (seg ++ nb.flatten).Nodup
 peel : ∀ (j : Nat) B, nb[j]? = some B → ∃ a, ∀ x f g, f ∈ B → tch L f x → NL L g → g ∉ (nb.take (j + 1)).flatten → tch L g x → x = a
 lowle : lw si v ≤ sn si v
 wit : lw si v < sn si v → ∃ y A b, anc y ∧ sn s y = lw si v ∧ Wit L (fun x => sn s x = 0 ∧ sn si x ≠ 0) v y A b
structure Md (L : List (Nat × Nat)) (v : Nat) (by' : Int) (anc : Nat → Prop) (s : BS) (i : Nat) (si : BS) (seg : List Nat) (nb : List (List Nat)) : Prop where
 fd : Fnd L v by' anc s si seg nb
 cov : ∀ e, NL L e → ∀ x, sn s x = 0 → sn si x ≠ 0 → x ≠ v → tch L e x → e ∈ seg ∨ e ∈ nb.flatten
 covv : ∀ e, e ∈ (atV L v).take i → e ∈ seg ∨ e ∈ nb.flatten ∨ (e : Int) = by'
 src : ∀ e, e ∈ seg ∨ e ∈ nb.flatten → (∃ x, sn s x = 0 ∧ sn si x ≠ 0 ∧ x ≠ v ∧ tch L e x) ∨ e ∈ (atV L v).take i
structure VS (L : List (Nat × Nat)) (v : Nat) (by' : Int) (anc : Nat → Prop) (s s' : BS) (seg : List Nat) (nb : List (List Nat)) : Prop where
 fd : Fnd L v by' anc s s' seg nb
 cov : ∀ e, NL L e → ∀ x, sn s x = 0 → sn s' x ≠ 0 → tch L e x → e ∈ seg ∨ e ∈ nb.flatten ∨ (e : Int) = by'
section
variable {L : List (Nat × Nat)} {v : Nat} {by' : Int} {anc : Nat → Prop} {s si : BS} {seg : List Nat} {nb : List (List Nat)} {i : Nat}
end
end Go.Proofs.Ytdhfgihnoimoaaa
namespace Go.Proofs.Ytdhfgihnoimoaaa
open Go.Sp Go.RowKit
end Go.Proofs.Ytdhfgihnoimoaaa
namespace Go.Proofs.Ytdhfgihnoimoaaa
open Go.Sp
def iC (B : List Int) : List ACell := B.map fun x => ACell.int .i64 x
theorem iC_len (B : List Int) : (iC B).length = B.length := by simp [iC]
theorem iC_set (B : List Int) (i : Nat) (x : Int) : (iC B).set i (.int .i64 x) = iC (B.set i x) := by simp [iC, List.map_set]
theorem made_ints (n : Nat) : madeA [ACell.int .i64 0] n = iC (List.replicate n 0) := by simp [madeA, iC]
theorem iC_trees (B : List Int) : (iC B).mapM toTree0 = some (B.map fun x => Tree.int .i64 x) := by
 induction B with
 | nil => rfl
 | cons x xs ih => simp only [iC, List.map_cons, List.mapM_cons] at ih ⊢; rw [ih]; rfl
theorem iRows_pre (B : List Int) (i : Nat) (r : List Tree) (m : Nat) (x : Tree) (h1 : (iRows B)[i]? = some r) (h2 : r[m]? = some x) : (B.map fun x => Tree.int .i64 x)[i * 1 + m]? = some x := by
 simp only [iRows, List.getElem?_map] at h1
 cases hb : B[i]? with
 | none => rw [hb] at h1; simp at h1
 | some b =>
  rw [hb] at h1
  simp at h1
  subst h1
  cases m with
  | zero => simp at h2; simp [hb, h2]
  | succ m => simp at h2
theorem iC_get {B : List Int} {i : Nat} {x : Int} (h : B[i]? = some x) : (iC B)[i]? = some (.int .i64 x) := by simp [iC, h]
theorem iC_in {m : Nat} {B : List Int} : blkIn m (.box (iC B)) := by
 intro c hc
 obtain ⟨p, _, rfl⟩ := List.mem_map.1 hc
 exact True.intro
def llRows (ls : List (List Int)) : List (List Tree) := ls.map fun l => [Tree.slice (iRows l)]
def tlists (ls : List (List Int)) : TVal := .t (.slice (llRows ls))
attribute [go_sem] tlists
theorem llRows_len (ls : List (List Int)) : (llRows ls).length = ls.length := by simp [llRows]
theorem llRows_get {ls : List (List Int)} {i : Nat} {l : List Int} (h : ls[i]? = some l) : (llRows ls)[i]? = some [Tree.slice (iRows l)] := by simp [llRows, h]
theorem llRows_k' {ls : List (List Int)} {r : List Tree} (h : r ∈ llRows ls) : r.length = 1 := by
 obtain ⟨x, _, rfl⟩ := List.mem_map.1 h; rfl
theorem llRows_snoc (ls : List (List Int)) (a : List Int) : llRows ls ++ [[Tree.slice (iRows a)]] = llRows (ls ++ [a]) := by simp [llRows]
theorem chRows (ls : List (List Int)) : (ls.map iRows).map (fun r => [Tree.slice r]) = llRows ls := by simp [llRows]
def chI (b : Nat) (ls : List (List Int)) : List ACell := chC b (ls.map iRows)
def chJ (ls : List (List Int)) : List Blk := chB (ls.map iRows)
theorem chI_len (b : Nat) (ls : List (List Int)) : (chI b ls).length = ls.length := by simp [chI, chC_len]
theorem chJ_len (ls : List (List Int)) : (chJ ls).length = ls.length := by simp [chJ, chB_len]
theorem chI_get {b i : Nat} {ls : List (List Int)} {l : List Int} (h : ls[i]? = some l) : (chI b ls)[i]? = some (.slice (iRows l) (.chain (i + b))) := chC_get (by simp [h])
theorem chI_drop {b i : Nat} {ls : List (List Int)} {l : List Int} (h : ls[i]? = some l) : (chI b ls).drop i = .slice (iRows l) (.chain (i + b)) :: (chI b ls).drop (i + 1) := chC_drop (by simp [h])
theorem chI_set (b i : Nat) (ls : List (List Int)) (l : List Int) : (chI b ls).set i (.slice (iRows l) (.chain (i + b))) = chI b (ls.set i l) := by unfold chI; rw [chC_set, List.map_set]
theorem chJ_get {i : Nat} {ls : List (List Int)} {l : List Int} (h : ls[i]? = some l) : (chJ ls)[i]? = some (.chain l.length 1) := by
 have := chB_get (f := ls.map iRows) (i := i) (r := iRows l) (by simp [h])
 rwa [iRows_len] at this
theorem chJ_set (i : Nat) (ls : List (List Int)) (l : List Int) {n : Nat} (hn : n = l.length) : (chJ ls).set i (.chain n 1) = chJ (ls.set i l) := by
 unfold chJ; rw [chB_set _ i (iRows l) (by rw [iRows_len]; exact hn), List.map_set]
theorem chJ_in {m : Nat} {ls : List (List Int)} : blksIn m (chJ ls) := chB_in
theorem chJ_take {ls : List (List Int)} {n : Nat} (h : ls.length ≤ n) : (chJ ls).take n = chJ ls := List.take_of_length_le (by rw [chJ_len]; exact h)
structure R where
 n : Int
 es : List E
 ar : List (List Int)
def R.g (r : R) : G := ⟨r.n, r.es⟩
set_option maxHeartbeats 1000000
def Peel (L : List (Nat × Nat)) (nb : List (List Nat)) : Prop := ∀ (j : Nat) B, nb[j]? = some B → ∃ a, ∀ x f g, f ∈ B → tch L f x → NL L g → g ∉ (nb.take (j + 1)).flatten → tch L g x → x = a
section
variable {L : List (Nat × Nat)} {v : Nat} {by' : Int} {anc : Nat → Prop} {s si : BS} {seg : List Nat} {nb : List (List Nat)} {i : Nat}
end
end Go.Proofs.Ytdhfgihnoimoaaa
namespace Go.Proofs.Ytdhfgihnoimoaaa
open Go.ChangeShapes Go.WideShapes Go.ChangeAt Go.RowKit Go.Joins Go.Sp
theorem own : ownKnob Try.prog.godebug = none := by kernel_rfl
theorem laidOut : laidOutB Try.prog = true := by kernel_rfl
theorem edgeCells : IntCells Try.prog 55 3 :=
 intCells_struct Try.underlying55 (by kernel_rfl) (fun i f hf => by
  match i, hf with
  | 0, hf => obtain rfl := Option.some.inj hf; exact ⟨Try.underlying3, by kernel_rfl, rfl⟩
  | 1, hf => obtain rfl := Option.some.inj hf; exact ⟨Try.underlying3, by kernel_rfl, rfl⟩
  | 2, hf => obtain rfl := Option.some.inj hf; exact ⟨Try.underlying3, by kernel_rfl, rfl⟩
  | n + 3, hf => simp at hf)
def toE (r : List Int) : E := ⟨r.getD 0 0, r.getD 1 0, r.getD 2 0⟩
theorem eRows_of {rows : List (List Int)} (h : ∀ r, r ∈ rows → r.length = 3) : rows.map tInts = eRows (rows.map toE) := by
 simp only [eRows, List.map_map]
 refine List.map_congr_left fun r hr => ?_
 match r, h r hr with
 | [a, b, c], _ => rfl
theorem open_graph {H : Type} {enc : TypeId × Value → H} {w : World} {r : Reach} {b0 base : Nat} {spare : Nat → Bool} {held : Bool} {v : Value} {d : DataW H} {p : List MemPlace}
  (hv : Value.okWide Try.prog w r b0 24 v) (h : DataW.Trod enc Try.prog w base spare held 24 v d p) : ∃ g : G, TVRel (fun _ _ => True) w (tG g) v := by
 obtain ⟨v0, v1, y0, y1, n, rfl, -, -, h0, h1⟩ := open_agg2 Try.underlying24 (by kernel_rfl) (by kernel_rfl) hv h
 obtain ⟨m, hm, -, -⟩ := DataW.trod_int Try.underlying3 h0
 obtain rfl : v0 = .int .i64 m := by simpa using hm
 obtain ⟨rows, hr, -, ht⟩ := open_rows Try.underlying22 edgeCells (by decide) h1
 rw [eRows_of fun r hr' => (hr r hr').1] at ht
 refine ⟨⟨m, rows.map toE⟩, #[.int .i64 m, v1], rfl, rfl, fun j c u hc hu => ?_⟩
 match j, hc, hu with
 | 0, hc, hu => simp at hc hu; subst hc hu; exact .int _ _
 | 1, hc, hu => simp at hc hu; subst hc hu; exact ht
 | n + 2, hc, hu => simp at hc
end Go.Proofs.Ytdhfgihnoimoaaa
