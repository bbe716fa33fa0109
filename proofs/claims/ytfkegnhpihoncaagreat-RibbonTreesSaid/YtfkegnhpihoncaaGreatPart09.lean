/- A part of the proof. -/
import Derived.Test.YtfkegnhpihoncaaGreatPart08
import Derived.Test.YtfkegnhpihoncaaGreatPart01
import Derived.Shelf.SlSortCmp.NoneTotal
import Derived.Test.YtfkegnhpihoncaaGreatLayerC
import Derived.Test.YtfkegnhpihoncaaGreatSpOpen
import Derived.Test.YtfkegnhpihoncaaGreatRows
import Derived.WalkKit
import Derived.ProofKit
import Derived.OpenShut
import Derived.ShutString
import Derived.ChangeOld
import Derived.Below
import Derived.Lib.SmallJoins
set_option linter.all false
set_option maxHeartbeats 4000000
set_option maxRecDepth 100000
namespace Go.Proofs.YtfkegnhpihoncaaGreat
open Go.Sp
def valL (v : Int) : List E → Int
 | [] => 0
 | x :: xs => (if x.a ≠ x.b ∧ (x.a = v ∨ x.b = v) then x.m else 0) + valL v xs
end Go.Proofs.YtfkegnhpihoncaaGreat
namespace Go.Proofs.YtfkegnhpihoncaaGreat
open Go.Sp Go.RowKit
theorem agg71 : ∀ w, (isAgg 76).run Tryz.prog w = .ok true w := fun w => by
 have h : tAgg Tryz.prog 76 = some true := by simp only [ty]
 simp [run_tAgg h]
theorem size71 : ∀ w, (Go.sizeOf 76).run Tryz.prog w = .ok 3 w := fun w => by
 have h : tSize Tryz.prog 76 = some 3 := by simp only [ty]
 exact run_tSize h w
theorem enter77 : ∀ args w, (callFunc 137 args).run Tryz.prog w = .ok (.enter 137 args) w := Go.Proofs.enters_of Tryz.func137 (by kernel_rfl) rfl
theorem eRow_flat (e : E) : flatRow (eRow e) = true := rfl
theorem SortE_ok (es : List E) (hl : es.length < 2 ^ 60) {H : List Blk} {id cap : Nat} (hid : H[id]? = some (.box (flatRows (eRows es)))) :
  ACallH Tryz.prog 137 H [.c (.ref id 3 0 es.length cap), .c (.fn 138 [])] (H.set id (.box (flatRows (eRows (sortE es))))) (.tup []) :=
 SortFunc_call laySortE eRow 3 agg71 size71 (fun _ => rfl) eRow_flat cfE swoE 138 closE_ok enter77 es (by omega) hid
theorem SortE_none : ACall Tryz.prog 137 [.t (.slice []), .t (.fn 138 [])] (.tup []) := by
 refine ⟨enter77, fun S w vs hl hv => ?_⟩
 match vs, hl with
 | [v0, v1], _ =>
 have h0 : TRel S w (.slice []) v0 := hv 0 _ v0 rfl rfl
 have key : ∀ a c, Calls Tryz.prog 137 #[.slice a 0 c, v1] w fun e w' => ∃ v, e = .returned v ∧ TVRel (fun b o => S b o ∨ w.heap.size ≤ b) w' (.tup []) v ∧ Below w.heap.size w w' ∧ w.drawn ≤ w'.drawn := fun a c => by
  refine (Go.Proofs.AnyF.slices_SortFunc_none laySortE a c v1 w).mono ?_
  rintro e w' ⟨rfl, rfl⟩
  exact ⟨_, rfl, ⟨#[], rfl, rfl, by simp⟩, Below.refl _ _, Nat.le_refl _⟩
 cases h0 with
 | nil a c => exact key a c
 | slice b off k c rows cell hn hk hc hr => exact key _ c
end Go.Proofs.YtfkegnhpihoncaaGreat
namespace Go.Proofs.YtfkegnhpihoncaaGreat
open Go.Sp
def iC (B : List Int) : List ACell := B.map fun x => ACell.int .i64 x
theorem iC_len (B : List Int) : (iC B).length = B.length := by simp [iC]
theorem iC_set (B : List Int) (i : Nat) (x : Int) : (iC B).set i (.int .i64 x) = iC (B.set i x) := by simp [iC, List.map_set]
theorem made_ints (n : Nat) : madeA [ACell.int .i64 0] n = iC (List.replicate n 0) := by simp [madeA, iC]
theorem iC_trees (B : List Int) : (iC B).mapM toTree0 = some (B.map fun x => Tree.int .i64 x) := by
 induction B with
 | nil => rfl
 | cons x xs ih => simp only [iC, List.map_cons, List.mapM_cons] at ih ⊢; rw [ih]; rfl
theorem iRows_pre (B : List Int) (i : Nat) (r : List Tree) (m : Nat) (x : Tree) (h1 : (iRows B)[i]? = some r) (h2 : r[m]? = some x) : (B.map fun x => Tree.int .i64 x)[i * 1 + m]? = some x := by
 simp only [iRows, List.getElem?_map] at h1
 cases hb : B[i]? with
 | none => rw [hb] at h1; simp at h1
 | some b =>
  rw [hb] at h1
  simp at h1
  subst h1
  cases m with
  | zero => simp at h2; simp [hb, h2]
  | succ m => simp at h2
theorem iC_get {B : List Int} {i : Nat} {x : Int} (h : B[i]? = some x) : (iC B)[i]? = some (.int .i64 x) := by simp [iC, h]
theorem iC_drop {B : List Int} {i : Nat} {x : Int} (h : B[i]? = some x) : (iC B).drop i = .int .i64 x :: (iC B).drop (i + 1) := by
 obtain ⟨hl, e⟩ := List.getElem?_eq_some_iff.1 (iC_get h)
 rw [List.drop_eq_getElem_cons hl, e]
theorem iC_in {m : Nat} {B : List Int} : blkIn m (.box (iC B)) := by
 intro c hc
 obtain ⟨p, _, rfl⟩ := List.mem_map.1 hc
 exact True.intro
theorem iRows_take (l : List Int) (i : Nat) : (iRows l).take i = iRows (l.take i) := by simp [iRows]
theorem iRows_drop (l : List Int) (i : Nat) : (iRows l).drop i = iRows (l.drop i) := by simp [iRows]
def llRows (ls : List (List Int)) : List (List Tree) := ls.map fun l => [Tree.slice (iRows l)]
def tlists (ls : List (List Int)) : TVal := .t (.slice (llRows ls))
attribute [go_sem] tlists
theorem llRows_len (ls : List (List Int)) : (llRows ls).length = ls.length := by simp [llRows]
theorem llRows_get {ls : List (List Int)} {i : Nat} {l : List Int} (h : ls[i]? = some l) : (llRows ls)[i]? = some [Tree.slice (iRows l)] := by simp [llRows, h]
theorem llRows_k' {ls : List (List Int)} {r : List Tree} (h : r ∈ llRows ls) : r.length = 1 := by
 obtain ⟨x, _, rfl⟩ := List.mem_map.1 h; rfl
theorem llRows_snoc (ls : List (List Int)) (a : List Int) : llRows ls ++ [[Tree.slice (iRows a)]] = llRows (ls ++ [a]) := by simp [llRows]
theorem chRows (ls : List (List Int)) : (ls.map iRows).map (fun r => [Tree.slice r]) = llRows ls := by simp [llRows]
def chI (b : Nat) (ls : List (List Int)) : List ACell := chC b (ls.map iRows)
def chJ (ls : List (List Int)) : List Blk := chB (ls.map iRows)
theorem chI_len (b : Nat) (ls : List (List Int)) : (chI b ls).length = ls.length := by simp [chI, chC_len]
theorem chJ_len (ls : List (List Int)) : (chJ ls).length = ls.length := by simp [chJ, chB_len]
theorem chI_get {b i : Nat} {ls : List (List Int)} {l : List Int} (h : ls[i]? = some l) : (chI b ls)[i]? = some (.slice (iRows l) (.chain (i + b))) := chC_get (by simp [h])
theorem chI_drop {b i : Nat} {ls : List (List Int)} {l : List Int} (h : ls[i]? = some l) : (chI b ls).drop i = .slice (iRows l) (.chain (i + b)) :: (chI b ls).drop (i + 1) := chC_drop (by simp [h])
theorem chI_set (b i : Nat) (ls : List (List Int)) (l : List Int) : (chI b ls).set i (.slice (iRows l) (.chain (i + b))) = chI b (ls.set i l) := by unfold chI; rw [chC_set, List.map_set]
theorem chJ_get {i : Nat} {ls : List (List Int)} {l : List Int} (h : ls[i]? = some l) : (chJ ls)[i]? = some (.chain l.length 1) := by
 have := chB_get (f := ls.map iRows) (i := i) (r := iRows l) (by simp [h])
 rwa [iRows_len] at this
theorem chJ_set (i : Nat) (ls : List (List Int)) (l : List Int) {n : Nat} (hn : n = l.length) : (chJ ls).set i (.chain n 1) = chJ (ls.set i l) := by
 unfold chJ; rw [chB_set _ i (iRows l) (by rw [iRows_len]; exact hn), List.map_set]
theorem chI_in {m b : Nat} {ls : List (List Int)} (h : b + ls.length ≤ m) : blkIn m (.box (chI b ls)) := chC_in (by simpa using h)
theorem chJ_in {m : Nat} {ls : List (List Int)} : blksIn m (chJ ls) := chB_in
theorem chJ_take {ls : List (List Int)} {n : Nat} (h : ls.length ≤ n) : (chJ ls).take n = chJ ls := List.take_of_length_le (by rw [chJ_len]; exact h)
theorem chI_nil (b n : Nat) : chC b (List.replicate n []) = chI b (List.replicate n []) := by simp [chI, iRows]
theorem chJ_nil (n : Nat) : chB (List.replicate n []) = chJ (List.replicate n []) := by simp [chJ, iRows]
theorem made_nils (n : Nat) : madeA [ACell.nils] n = List.replicate n .nils := by simp [madeA]
structure R where
 n : Int
 es : List E
 ar : List (List Int)
def R.g (r : R) : G := ⟨r.n, r.es⟩
def tR (r : R) : TVal := .agg [.int .i64 r.n, .slice (eRows r.es), .slice (llRows r.ar)]
def tabI (N : Nat) (g : Nat → Int) : List Int := (List.range N).map g
theorem tabI_len (N : Nat) (g : Nat → Int) : (tabI N g).length = N := by simp [tabI]
theorem tabI_get {N i : Nat} (g : Nat → Int) (h : i < N) : (tabI N g)[i]? = some (g i) := by simp [tabI, h]
theorem tabI_congr {N : Nat} {g f : Nat → Int} (h : ∀ i, i < N → g i = f i) : tabI N g = tabI N f := List.map_congr_left fun i hi => h i (List.mem_range.1 hi)
theorem tabI_set {N i : Nat} (g : Nat → Int) (x : Int) (hi : i < N) : (tabI N g).set i x = tabI N (fun j => if j = i then x else g j) := by
 apply List.ext_getElem?
 intro k
 by_cases hk : k < N
 ·rw [tabI_get _ hk]
  by_cases e : i = k
  ·subst e; rw [List.getElem?_set_self (by rw [tabI_len]; exact hi)]; simp
  ·rw [List.getElem?_set_ne e, tabI_get _ hk, if_neg (by omega)]
 ·rw [List.getElem?_eq_none (by rw [List.length_set, tabI_len]; omega), List.getElem?_eq_none (by rw [tabI_len]; omega)]
theorem tabI_rep (N : Nat) : List.replicate N (0 : Int) = tabI N fun _ => 0 := by
 rw [tabI, eq_comm, List.eq_replicate_iff]
 exact ⟨by simp, fun x hx => by obtain ⟨_, _, rfl⟩ := List.mem_map.1 hx; rfl⟩
end Go.Proofs.YtfkegnhpihoncaaGreat
namespace Go.Proofs.YtfkegnhpihoncaaGreat
open Go.ChangeShapes Go.WideShapes Go.ChangeAt Go.RowKit Go.Joins Go.Sp
theorem own : ownKnob Tryz.prog.godebug = none := by kernel_rfl
theorem laidOut : laidOutB Tryz.prog = true := by kernel_rfl
theorem edgeCells : IntCells Tryz.prog 76 3 :=
 intCells_struct Tryz.underlying76 (by kernel_rfl) (fun i f hf => by
  match i, hf with
  | 0, hf => obtain rfl := Option.some.inj hf; exact ⟨Tryz.underlying3, by kernel_rfl, rfl⟩
  | 1, hf => obtain rfl := Option.some.inj hf; exact ⟨Tryz.underlying3, by kernel_rfl, rfl⟩
  | 2, hf => obtain rfl := Option.some.inj hf; exact ⟨Tryz.underlying3, by kernel_rfl, rfl⟩
  | n + 3, hf => simp at hf)
def toE (r : List Int) : E := ⟨r.getD 0 0, r.getD 1 0, r.getD 2 0⟩
theorem eRows_of {rows : List (List Int)} (h : ∀ r, r ∈ rows → r.length = 3) : rows.map tInts = eRows (rows.map toE) := by
 simp only [eRows, List.map_map]
 refine List.map_congr_left fun r hr => ?_
 match r, h r hr with
 | [a, b, c], _ => rfl
theorem iRows_of {rows : List (List Int)} (h : ∀ r, r ∈ rows → r.length = 1) : rows.map tInts = iRows (rows.map fun r => r.getD 0 0) := by
 simp only [iRows, List.map_map]
 refine List.map_congr_left fun r hr => ?_
 match r, h r hr with
 | [a], _ => rfl
theorem intCell : IntCells Tryz.prog 3 1 := intCells_int Tryz.underlying3 (by kernel_rfl)
theorem open_ints {H : Type} {enc : TypeId × Value → H} {w : World} {r : Reach} {b0 base : Nat} {spare : Nat → Bool} {held : Bool} {v : Value} {d : DataW H} {p : List MemPlace}
  (hv : Value.okWide Tryz.prog w r b0 40 v) (h : DataW.Trod enc Tryz.prog w base spare held 40 v d p) : ∃ l : List Int, TVRel (fun _ _ => True) w (tints l) v ∧ l.length ≤ maxLen := by
 obtain ⟨a, len, cap, rfl⟩ := okWide_slice Tryz.underlying40 hv
 obtain ⟨m, h⟩ := h
 obtain ⟨rows, hr, hl, ht⟩ := open_rows Tryz.underlying40 intCell (by decide) (by simpa [Value.cells] using h)
 rw [iRows_of fun r hr' => (hr r hr').1] at ht
 exact ⟨_, ht, by simpa using hl⟩
end Go.Proofs.YtfkegnhpihoncaaGreat
