/- A part of the proof: contracts of functions of the program, and plain lemmas. -/
import Derived.Test.YtfkegnhpihoncaaGreatPart01
import Derived.Test.YtfkegnhpihoncaaGreatLayerC
import Derived.Test.YtfkegnhpihoncaaGreatLayerB
import Derived.Shelf.SlSortCmp.WholeK
import Derived.Shelf.SlSortCmp.Whole1
import Derived.Shelf.Sort.Plain
import Derived.Ground.SlsfProg
import Derived.Ground.NamesProg
import Derived.Test.YtfkegnhpihoncaaGreatProg
import Derived.Shelf.SlSortCmp.NoneTotal
set_option linter.all false
namespace Go.Proofs.YtfkegnhpihoncaaGreat
open Go.Sp
set_option linter.unusedSimpArgs false
set_option linter.unusedVariables false
set_option maxHeartbeats 4000000
set_option maxRecDepth 100000
theorem itemsP_ps {l : List (Int × Int)} {n : Nat} (hn : n = 2) (k : Nat) (ts : List TVal) (h : (itemsP l)[k]? = some ts) : ts.length = n := by
  obtain ⟨p, _, rfl⟩ := itemsP_inv h; exact hn.symm
theorem take_snoc {α : Type} {l : List α} {k : Nat} {p : α} (h : l[k]? = some p) : l.take (k + 1) = l.take k ++ [p] := by
  obtain ⟨hk, rfl⟩ := List.getElem?_eq_some_iff.1 h
  exact List.take_succ_eq_append_getElem hk
theorem checkE_zero {n : Int} {es : List E} : ∀ {k : Nat}, k ≤ es.length → (checkE n es k = 0 ↔ ∀ i, es.length - k ≤ i → i < es.length → edgeE n es i = 0) := by
  intro k
  induction k with
  | zero => intro _; simp only [checkE, true_iff]; intro i h1 h2; omega
  | succ k ih =>
    intro hk
    simp only [checkE]
    by_cases h : edgeE n es (es.length - (k + 1)) = 0
    · rw [if_neg (by simp [h]), ih (by omega)]
      constructor
      · intro hx i h1 h2
        by_cases e : i = es.length - (k + 1)
        · subst e; exact h
        · exact hx i (by omega) h2
      · intro hx i h1 h2; exact hx i (by omega) h2
    · rw [if_pos h]
      constructor
      · intro hx; exact absurd hx h
      · intro hx; exact absurd (hx _ (Nat.le_refl _) (by omega)) h
def ltE (x y : E) : Prop := x.a < y.a ∨ (x.a = y.a ∧ x.b < y.b)
def okE (n : Int) (x : E) : Prop := 0 ≤ x.a ∧ x.a ≤ x.b ∧ x.b < n ∧ 1 ≤ x.m ∧ x.m ≤ 50
theorem edgeE_iff {n : Int} {es : List E} {i : Nat} (hi : i < es.length) : edgeE n es i = 0 ↔ okE n es[i] ∧ ∀ j (hj : j + 1 = i), ltE (es[j]'(by omega)) es[i] := by
  unfold edgeE okE ltE
  rw [List.getElem?_eq_getElem hi]
  simp only
  by_cases h1 : ¬ (0 ≤ es[i].a ∧ es[i].a < n) ∨ ¬ (0 ≤ es[i].b ∧ es[i].b < n) ∨ es[i].m < 1 ∨ 50 < es[i].m
  · rw [if_pos h1]; constructor
    · intro h; omega
    · rintro ⟨h, _⟩; omega
  · rw [if_neg h1]
    by_cases h2 : es[i].b < es[i].a
    · rw [if_pos h2]; constructor
      · intro h; omega
      · rintro ⟨h, _⟩; omega
    · rw [if_neg h2]
      cases i with
      | zero => simp only [true_iff]; exact ⟨by omega, fun j hj => by omega⟩
      | succ j =>
        have hj : j < es.length := by omega
        simp only [List.getElem?_eq_getElem hj]
        constructor
        · intro h
          split at h
          · omega
          · refine ⟨by omega, fun j' e => ?_⟩
            have : j' = j := by omega
            subst this; omega
        · rintro ⟨h, h3⟩
          have := h3 j rfl
          rw [if_neg (by omega)]
theorem checkG_zero {g : G} : checkG g = 0 ↔ (1 ≤ g.n ∧ g.n ≤ 12) ∧ (∀ e, e ∈ g.es → okE g.n e) ∧ g.es.Pairwise ltE := by
  unfold checkG
  by_cases h1 : g.n < 1 ∨ 12 < g.n
  · rw [if_pos h1]; constructor
    · intro h; omega
    · rintro ⟨h, _⟩; omega
  · rw [if_neg h1, checkE_zero (Nat.le_refl _), Nat.sub_self]
    constructor
    · intro h
      refine ⟨by omega, fun e he => ?_, ?_⟩
      · obtain ⟨i, hi, rfl⟩ := List.mem_iff_getElem.1 he
        exact ((edgeE_iff hi).1 (h i (Nat.zero_le _) hi)).1
      · rw [List.pairwise_iff_getElem]
        intro i j hi hj hij
        have step : ∀ d (hd : i + 1 + d < g.es.length), ltE g.es[i] g.es[i + 1 + d] := by
          intro d
          induction d with
          | zero => intro hd; exact ((edgeE_iff hd).1 (h _ (Nat.zero_le _) hd)).2 i (by omega)
          | succ d ih =>
            intro hd
            have h2 := ih (by omega)
            have h3 := ((edgeE_iff hd).1 (h _ (Nat.zero_le _) hd)).2 (i + 1 + d) (by omega)
            unfold ltE at *; omega
        have := step (j - (i + 1)) (by omega)
        have e : i + 1 + (j - (i + 1)) = j := by omega
        simp only [e] at this
        exact this
    · rintro ⟨_, h2, h3⟩ i _ hi
      rw [List.pairwise_iff_getElem] at h3
      exact (edgeE_iff hi).2 ⟨h2 _ (List.getElem_mem hi), fun j hj => h3 j i (by omega) hi (by omega)⟩
theorem endsL_len {es : List E} (h : ∀ e, e ∈ es → e.m ≤ 50) : (endsL es).length ≤ 50 * es.length := by
  induction es with
  | nil => simp [endsL]
  | cons x xs ih =>
    have h1 := h x (by simp)
    have h2 := ih fun e he => h e (by simp [he])
    have e : endsL (x :: xs) = endsL [x] ++ endsL xs := by rw [← endsL_append]; rfl
    rw [e, List.length_append, endsL_one, List.length_replicate, List.length_cons]; omega
structure Sm (g : G) : Prop where
  es : g.es.length < 2 ^ 40
  m : ∀ e, e ∈ g.es → e.m < 2 ^ 40
  s : (endsL g.es).length < 2 ^ 40
theorem sm_of {g : G} (hl : g.es.length < 2 ^ 30) (h : checkG g = 0) : Sm g := by
  obtain ⟨_, h2, _⟩ := checkG_zero.1 h
  refine ⟨by omega, fun e he => ?_, ?_⟩
  · have := h2 e he; unfold okE at this; omega
  · have := endsL_len (es := g.es) fun e he => by have := h2 e he; unfold okE at this; omega
    omega
def tpairs (l : List (Int × Int)) : TVal := .t (.slice (pRows l))
attribute [go_sem] tpairs
theorem Ends_ok (g : G) (hl : g.es.length < 2 ^ 30) : ACall Tryz.prog 108 [tG g] (if checkG g ≠ 0 then .tup [.t (.slice []), tint (checkG g)] else .tup [tpairs (endsL g.es), tint 0]) := by
  refine ACall.of_body Tryz.func108 rfl (by kernel_rfl) ?_
  simp only [entry, Tryz.ntmps108, tG]
  refine zU ?_
  repeat' (first|((first|(refine zT ?_;intro K' hK')|(refine zG ?_ ?_<;>(try refine zH ?_)<;>intro hguard<;>(try exact zX)<;>try intro K' hK'))<;>((try simp +contextual only [go_sem]);(repeat' first|(with_reducible refine hK' _ _ ?_;clear hK' K')|((with_reducible first|refine zL (c:=Check_ok g (by omega)) (q:=?_)|refine zK (singles_ok g) ?_);try simp +contextual only [go_sem])|exact zY|with_reducible refine And.intro ?_ ?_|(with_reducible intro hpath;try exact zP)|(refine hK' _ _ ?_;clear hK' K')|fail);try refine zS ?_))|(refine zE ?_;refine hK _ _ ?_;clear hK K)|(refine zN ?_;try refine zS ?_)|refine zA ?_|(refine zB ?_;intro K hK)|(refine zC ?_ ?_<;>(try refine zH ?_)<;>intro hcond<;>try exact zX)|fail)
  · rw [if_pos (by assumption)]
    simp [Rets, aret, Blk.cells, ty, Tryz.results108, ares, toT1, toT, borrow, borrow0, capCell, toTree0, tint]
  ·
    rw [if_neg (by omega)]
    have hs := sm_of hl (by omega)
    refine AWp.weak (Weak.openB 1 0 2 rfl rfl (by omega)) ?_
    simp only [List.set_cons_succ, List.set_cons_zero, List.length_cons, List.length_nil, List.length_append, Nat.reduceAdd, List.cons_append, List.nil_append]
    refine AWp.weak (Weak.head (m := 3) (by omega) ((fun t f => [f, t, f, f, f, t, f, f, f, f, f, f, f, f, t, f, f, f, f, f, f, f, f, f, f, f]) true false) (by first | rfl | simp [mask]) (by first | rfl | simp) (by (repeat' (first | exact valsIn_nil _ | refine valsIn_cons ?_ ?_ | refine cellsIn_cons ?_ ?_ | exact cellsIn_nil _ | exact True.intro | (show _ < _; omega) | (intro c hc; cases hc; done) | (intro c hc; simp only [List.mem_cons, List.not_mem_nil, or_false] at hc; subst hc; exact True.intro) | (intro c hc; simp only [List.mem_cons, List.not_mem_nil, or_false] at hc; rcases hc with rfl | rfl <;> exact True.intro)))) (by (repeat' (first | exact valsIn_nil _ | exact blksIn_nil _ | exact cellsIn_nil _ | refine And.intro ?_ ?_ | refine valsIn_cons ?_ ?_ | refine blksIn_cons ?_ ?_ | refine cellsIn_cons ?_ ?_ | exact True.intro | (show _ < _; omega) | exact cellsIn_map (fun _ => True.intro) | (intro c hc; cases hc; done) | (intro c hc; simp only [List.mem_cons, List.not_mem_nil, or_false] at hc; subst hc; exact True.intro) | (intro c hc; simp only [List.mem_cons, List.not_mem_nil, or_false] at hc; rcases hc with rfl | rfl <;> exact True.intro))))) (AWp.rangeFunc (fun k H => H = [.box [.int .i64 g.n, .slice (eRows g.es) .none], .box [.slice (pRows ((endsL g.es).take k)) (.chain 2)], .chain ((endsL g.es).take k).length 2] ∧ (True)) (fun _ _ => False) 3 rfl (singles1_ok g hs.s hs.es hs.m) (itemsP_ps rfl) (by omega) (by (repeat' (first | exact valsIn_nil _ | refine valsIn_cons ?_ ?_ | refine cellsIn_cons ?_ ?_ | exact cellsIn_nil _ | exact True.intro | (show _ < _; omega) | (intro c hc; cases hc; done) | (intro c hc; simp only [List.mem_cons, List.not_mem_nil, or_false] at hc; subst hc; exact True.intro) | (intro c hc; simp only [List.mem_cons, List.not_mem_nil, or_false] at hc; rcases hc with rfl | rfl <;> exact True.intro)))) (by rintro _ _ ⟨rfl, -⟩; simp) (fun _ _ h => h.elim) ?_ (fun l k ts H hts hI => ?_) (fun H hI => ?_) (fun e H h => h.elim))
    · exact ⟨rfl, trivial⟩
    · obtain ⟨rfl, -⟩ := hI
      obtain ⟨p, hp, rfl⟩ := itemsP_inv hts
      simp only [mask, setPs, List.zip_cons_cons, List.zip_nil_right, List.zip_nil_left, List.foldl_cons, List.foldl_nil, List.set_cons_succ, List.set_cons_zero, ofT, ofT1, ofTree, List.map_cons, List.map_nil, ofT, ofT1, toT, toT1, toTree0, tint, tbool, tpair, tG]
      have hk : k < (endsL g.es).length := (List.getElem?_eq_some_iff.1 hp).1
      have hkl : ((endsL g.es).take k).length = k := by rw [List.length_take]; omega
      have := hs.s
      repeat' (first|((first|(refine zT ?_;intro K' hK')|(refine zG ?_ ?_<;>(try refine zH ?_)<;>intro hguard<;>(try exact zX)<;>try intro K' hK'))<;>((try simp +contextual only [go_sem, pRows_len, chunks, List.range, List.range.loop, pRows_snoc, hkl]);(repeat' first|(with_reducible refine hK' _ _ ?_;clear hK' K')|(with_reducible exact pRows_k' (by assumption))|exact zY|with_reducible refine And.intro ?_ ?_|(with_reducible intro hpath;try exact zP)|(refine hK' _ _ ?_;clear hK' K')|fail);try refine zS ?_))|(refine zE ?_;refine hK _ _ ?_;clear hK K)|(refine zN ?_;try refine zS ?_)|refine zA ?_|(refine zB ?_;intro K hK)|(refine zC ?_ ?_<;>(try refine zH ?_)<;>intro hcond<;>try exact zX)|fail)
      refine ⟨⟨_, _⟩, Weak.head2 (m := 3) (by decide) ((fun t f => [f, f, f, f, f, f, f, f, f, f, f, f, f, f, f, f, f, f, f, f, f, f, f, f, f, f]) true false) rfl rfl zW, ?_, ?_⟩
      · simp [take_snoc hp, hkl]
      · trivial
    · obtain ⟨rfl, -⟩ := hI
      simp only [mask]
      repeat' (first|((first|(refine zT ?_;intro K' hK')|(refine zG ?_ ?_<;>(try refine zH ?_)<;>intro hguard<;>(try exact zX)<;>try intro K' hK'))<;>((try simp +contextual only [go_sem]);(repeat' first|(with_reducible refine hK' _ _ ?_;clear hK' K')|exact zY|with_reducible refine And.intro ?_ ?_|(with_reducible intro hpath;try exact zP)|(refine hK' _ _ ?_;clear hK' K')|fail);try refine zS ?_))|(refine zE ?_;refine hK _ _ ?_;clear hK K)|(refine zN ?_;try refine zS ?_)|refine zA ?_|(refine zB ?_;intro K hK)|(refine zC ?_ ?_<;>(try refine zH ?_)<;>intro hcond<;>try exact zX)|fail)
      simp [Rets, aret, Blk.cells, ty, Tryz.results108, ares, toT1, toT, borrow, borrow0, capCell, toTree0, tint, tpairs, itemsP_len]
end Go.Proofs.YtfkegnhpihoncaaGreat
set_option linter.all false
namespace Go.Proofs.YtfkegnhpihoncaaGreat
open Go.Sp Go.RowKit
set_option maxRecDepth 100000
theorem int3 (x y : Int) (w : World) : (Op.equalIn 9999 3 (.int .i64 x) (.int .i64 y)).run Tryz.prog w = .ok (x == y) w :=
  run_equalIn_int w 9998 3 _ _ x y (by simp only [ty] : Tryz.prog.underlying 3 = some (.int .i64))
theorem eqEdgeA (a b c a' b' c' : Int) (w : World) : (Op.equalIn 10000 76 (.agg #[.int .i64 a, .int .i64 b, .int .i64 c]) (.agg #[.int .i64 a', .int .i64 b', .int .i64 c'])).run Tryz.prog w = .ok (decide ([a,b,c] = [a',b',c'])) w := by
  rw [run_equalIn_agg w 9999 76 _ _ (by kernel_rfl) (by kernel_rfl)]
  have hA : tAgg Tryz.prog 3 = some false := by simp only [ty]
  simp [Program.fieldsOf, Tryz.underlying76, Op.eqFields, part, run_tAgg hA, Sem.run_bind, int3]
  by_cases h1 : a = a' <;> by_cases h2 : b = b' <;> by_cases h3 : c = c' <;> simp [*]
theorem eqEdge : EqInts Tryz.prog 76 3 := by
  refine ⟨fun xs ys w x y _ _ => ⟨run_eqGuard_agg w _ _ x y _ _ Tryz.eqGuardType76, run_eqGuard_agg w _ _ x y _ _ Tryz.eqGuardType76⟩, fun xs ys w h1 h2 => ?_⟩
  match xs, ys, h1, h2 with
  | [a, b, c], [a', b', c'], _, _ => exact ⟨by rw [run_eql_struct]; simp only [List.map_cons, List.map_nil]; rw [eqEdgeA]; rfl, by rw [run_neq_struct]; simp only [List.map_cons, List.map_nil]; rw [eqEdgeA]; rfl⟩
end Go.Proofs.YtfkegnhpihoncaaGreat
set_option linter.all false
namespace Go.Proofs.YtfkegnhpihoncaaGreat
open Go.Sp
set_option linter.unusedSimpArgs false
set_option linter.unusedVariables false
set_option maxHeartbeats 4000000
set_option maxRecDepth 100000
def iRows (l : List Int) : List (List Tree) := l.map fun x => [.int .i64 x]
def tints (l : List Int) : TVal := .t (.slice (iRows l))
attribute [go_sem] tints
theorem iRows_len (l : List Int) : (iRows l).length = l.length := by simp [iRows]
theorem iRows_get {l : List Int} {i : Nat} {x : Int} (h : l[i]? = some x) : (iRows l)[i]? = some [.int .i64 x] := by simp [iRows, h]
theorem iRows_k' {l : List Int} {r : List Tree} (h : r ∈ iRows l) : r.length = 1 := by
  obtain ⟨x, _, rfl⟩ := List.mem_map.1 h; rfl
theorem iRows_snoc (l : List Int) (a : Int) : iRows l ++ [[.int .i64 a]] = iRows (l ++ [a]) := by simp [iRows]
def idxI : List Int → Int → Int
  | [], _ => -1
  | x :: xs, v => if x = v then 0 else if idxI xs v < 0 then -1 else idxI xs v + 1
theorem idxI_ge (l : List Int) (v : Int) : -1 ≤ idxI l v := by
  induction l with
  | nil => simp [idxI]
  | cons x xs ih => simp only [idxI]; (repeat' split) <;> omega
theorem idxI_drop {l : List Int} {v : Int} : ∀ {k : Nat}, (∀ j, j < k → ∀ x, l[j]? = some x → x ≠ v) → k ≤ l.length → idxI l v = if idxI (l.drop k) v < 0 then -1 else idxI (l.drop k) v + k := by
  induction l with
  | nil => intro k _ hk; simp [idxI]
  | cons x xs ih =>
    intro k h hk
    cases k with
    | zero => have := idxI_ge (x :: xs) v; simp only [List.drop_zero, Int.natCast_zero]; split <;> omega
    | succ k =>
      have h0 := h 0 (by omega) x rfl
      have := ih (k := k) (fun j hj y hy => h (j + 1) (by omega) y (by simpa using hy)) (by simpa using hk)
      simp only [idxI, List.drop_succ_cons, if_neg h0, this]
      have h1 := idxI_ge (xs.drop k) v
      (repeat' split) <;> omega
theorem idxI_hit {l : List Int} {v : Int} {k : Nat} (h : ∀ j, j < k → ∀ x, l[j]? = some x → x ≠ v) (hk : k < l.length) (e : l[k] = v) : idxI l v = k := by
  rw [idxI_drop h (by omega), List.drop_eq_getElem_cons hk, idxI, if_pos e]; simp
theorem idxI_miss {l : List Int} {v : Int} (h : ∀ j, j < l.length → ∀ x, l[j]? = some x → x ≠ v) : idxI l v = -1 := by
  rw [idxI_drop h (Nat.le_refl _), List.drop_length]; simp [idxI]
theorem Index_ok (l : List Int) (v : Int) (hl : l.length < 2 ^ 40) : ACall Tryz.prog 104 [tints l, tint v] (tint (idxI l v)) := by
  refine ACall.of_body Tryz.func104 rfl (by kernel_rfl) ?_
  simp only [entry, Tryz.ntmps104, tints, tint]
  refine zU ?_
  repeat' (first|((first|(refine zT ?_;intro K' hK')|(refine zG ?_ ?_<;>(try refine zH ?_)<;>intro hguard<;>(try exact zX)<;>try intro K' hK'))<;>((try simp +contextual only [go_sem, iRows_len]);(repeat' first|(with_reducible refine hK' _ _ ?_;clear hK' K')|exact zY|with_reducible refine And.intro ?_ ?_|(with_reducible intro hpath;try exact zP)|(refine hK' _ _ ?_;clear hK' K')|fail);try refine zS ?_))|(refine zE ?_;refine hK _ _ ?_;clear hK K)|(refine zN ?_;try refine zS ?_)|refine zA ?_|(refine zB ?_;intro K hK)|(refine zC ?_ ?_<;>(try refine zH ?_)<;>intro hcond<;>try exact zX)|fail)
  refine AWp.loopx (α:=Nat) (fun k=>(⟨.c (.slice (iRows l) .none) :: .c (.int .i64 v) :: .c .any :: .c .any :: .c .any :: .c .any :: .c .any :: .c (.int .i64 l.length) :: .c (.int .i64 (k : Int)) :: .c .any :: .c .any :: .c .any :: .c .any :: .c .any :: .c .any :: .c .any :: .c .any :: .c .any :: .c .any :: [],[]⟩:St)) (fun k=>k ≤ l.length ∧ ∀ j, j < k → ∀ x, l[j]? = some x → x ≠ v) (fun k=>l.length - k) (0) (Weak.headL 0 19 [0, 1, 7, 8] zW) ?_ (fun k hI=>?_)
  · exact ⟨Nat.zero_le _, fun j hj => by omega⟩
  · obtain ⟨hk, hx⟩ := hI
    by_cases hlt : k < l.length
    · have e1 := iRows_get (List.getElem?_eq_getElem hlt)
      repeat' (first|((first|(refine zT ?_;intro K' hK')|(refine zG ?_ ?_<;>(try refine zH ?_)<;>intro hguard<;>(try exact zX)<;>try intro K' hK'))<;>((try simp +contextual only [go_sem, e1, Int.toNat_natCast, Int.ofNat_lt]);(repeat' first|(with_reducible refine hK' _ _ ?_;clear hK' K')|exact zY|with_reducible refine And.intro ?_ ?_|(with_reducible intro hpath;try exact zP)|(refine hK' _ _ ?_;clear hK' K')|fail);try refine zS ?_))|(refine zE ?_;refine hK _ _ ?_;clear hK K)|(refine zN ?_;try refine zS ?_)|refine zA ?_|(refine zB ?_;intro K hK)|(refine zC ?_ ?_<;>(try refine zH ?_)<;>intro hcond<;>try exact zX)|fail)
      · have hv : idxI l v = k := idxI_hit hx hlt (by omega)
        simp [Rets, aret, Blk.cells, ty, Tryz.results104, ares, toT1, toT, borrow, borrow0, capCell, toTree0, tint, hv]
      · refine ⟨k + 1,Weak.headN 0 19 [0, 1, 7, 8] zW,?_,?_⟩
        · refine ⟨hlt, fun j hj x hjx => ?_⟩
          by_cases hjk : j = k
          · subst hjk; rw [List.getElem?_eq_getElem hlt] at hjx; cases hjx; omega
          · exact hx j (by omega) x hjx
        · omega
    · have hv : idxI l v = -1 := idxI_miss (fun j hj => hx j (by omega))
      repeat' (first|((first|(refine zT ?_;intro K' hK')|(refine zG ?_ ?_<;>(try refine zH ?_)<;>intro hguard<;>(try exact zX)<;>try intro K' hK'))<;>((try simp +contextual only [go_sem, Int.ofNat_lt]);(repeat' first|(with_reducible refine hK' _ _ ?_;clear hK' K')|exact zY|with_reducible refine And.intro ?_ ?_|(with_reducible intro hpath;try exact zP)|(refine hK' _ _ ?_;clear hK' K')|fail);try refine zS ?_))|(refine zE ?_;refine hK _ _ ?_;clear hK K)|(refine zN ?_;try refine zS ?_)|refine zA ?_|(refine zB ?_;intro K hK)|(refine zC ?_ ?_<;>(try refine zH ?_)<;>intro hcond<;>try exact zX)|fail)
      simp [Rets, aret, Blk.cells, ty, Tryz.results104, ares, toT1, toT, borrow, borrow0, capCell, toTree0, tint, hv]
theorem idxI_mem (l : List Int) (v : Int) : 0 ≤ idxI l v ↔ v ∈ l := by
  induction l with
  | nil => simp [idxI]
  | cons x xs ih =>
    simp only [idxI, List.mem_cons]
    have h1 := idxI_ge xs v
    by_cases h : x = v
    · simp [h]
    · rw [if_neg h]
      have : ¬ v = x := fun e => h e.symm
      simp only [this, false_or, ← ih]
      split <;> omega
theorem Contains_ok (l : List Int) (v : Int) (hl : l.length < 2 ^ 40) : ACall Tryz.prog 81 [tints l, tint v] (tbool (decide (v ∈ l))) := by
  have e := idxI_mem l v
  refine ACall.of_body Tryz.func81 rfl (by kernel_rfl) ?_
  simp only [entry, Tryz.ntmps81, tints, tint]
  refine zU ?_
  repeat' (first|((first|(refine zT ?_;intro K' hK')|(refine zG ?_ ?_<;>(try refine zH ?_)<;>intro hguard<;>(try exact zX)<;>try intro K' hK'))<;>((try simp +contextual only [go_sem]);(repeat' first|(with_reducible refine hK' _ _ ?_;clear hK' K')|(with_reducible refine zK (Index_ok l v hl) ?_;try simp +contextual only [go_sem])|exact zY|with_reducible refine And.intro ?_ ?_|(with_reducible intro hpath;try exact zP)|(refine hK' _ _ ?_;clear hK' K')|fail);try refine zS ?_))|(refine zE ?_;refine hK _ _ ?_;clear hK K)|(refine zN ?_;try refine zS ?_)|refine zA ?_|(refine zB ?_;intro K hK)|(refine zC ?_ ?_<;>(try refine zH ?_)<;>intro hcond<;>try exact zX)|fail)
  simp [Rets, aret, Blk.cells, ty, Tryz.results81, ares, toT1, toT, borrow, borrow0, capCell, toTree0, tbool, e]
theorem Equal_ok (l m : List Int) (hl : l.length < 2 ^ 40) (hm : m.length < 2 ^ 40) : ACall Tryz.prog 38 [tints l, tints m] (tbool (decide (l = m))) := by
  refine ACall.of_body Tryz.func38 rfl (by kernel_rfl) ?_
  simp only [entry, Tryz.ntmps38, tints]
  refine zU ?_
  repeat' (first|((first|(refine zT ?_;intro K' hK')|(refine zG ?_ ?_<;>(try refine zH ?_)<;>intro hguard<;>(try exact zX)<;>try intro K' hK'))<;>((try simp +contextual only [go_sem, iRows_len]);(repeat' first|(with_reducible refine hK' _ _ ?_;clear hK' K')|exact zY|with_reducible refine And.intro ?_ ?_|(with_reducible intro hpath;try exact zP)|(refine hK' _ _ ?_;clear hK' K')|fail);try refine zS ?_))|(refine zE ?_;refine hK _ _ ?_;clear hK K)|(refine zN ?_;try refine zS ?_)|refine zA ?_|(refine zB ?_;intro K hK)|(refine zC ?_ ?_<;>(try refine zH ?_)<;>intro hcond<;>try exact zX)|fail)
  · have e : ¬ l = m := fun e => by subst e; omega
    simp [Rets, aret, Blk.cells, ty, Tryz.results38, ares, toT1, toT, borrow, borrow0, capCell, toTree0, tbool, e]
  · have hlm : l.length = m.length := by omega
    refine AWp.loopx (α:=Nat) (fun k=>(⟨.c (.slice (iRows l) .none) :: .c (.slice (iRows m) .none) :: .c .any :: .c .any :: .c .any :: .c .any :: .c .any :: .c .any :: .c .any :: .c .any :: .c .any :: .c .any :: .c (.int .i64 l.length) :: .c (.int .i64 (k : Int)) :: .c .any :: .c .any :: .c .any :: .c .any :: .c .any :: .c .any :: .c .any :: .c .any :: .c .any :: .c .any :: .c .any :: .c .any :: [],[]⟩:St)) (fun k=>k ≤ l.length ∧ ∀ j, j < k → l[j]? = m[j]?) (fun k=>l.length - k) (0) (Weak.headL 0 26 [0, 1, 12, 13] zW) ?_ (fun k hI=>?_)
    · exact ⟨Nat.zero_le _, fun j hj => by omega⟩
    · obtain ⟨hk, hx⟩ := hI
      by_cases hlt : k < l.length
      · have hlt2 : k < m.length := by omega
        have e1 := iRows_get (List.getElem?_eq_getElem hlt)
        have e2 := iRows_get (List.getElem?_eq_getElem hlt2)
        repeat' (first|((first|(refine zT ?_;intro K' hK')|(refine zG ?_ ?_<;>(try refine zH ?_)<;>intro hguard<;>(try exact zX)<;>try intro K' hK'))<;>((try simp +contextual only [go_sem, e1, e2, Int.toNat_natCast, Int.ofNat_lt]);(repeat' first|(with_reducible refine hK' _ _ ?_;clear hK' K')|exact zY|with_reducible refine And.intro ?_ ?_|(with_reducible intro hpath;try exact zP)|(refine hK' _ _ ?_;clear hK' K')|fail);try refine zS ?_))|(refine zE ?_;refine hK _ _ ?_;clear hK K)|(refine zN ?_;try refine zS ?_)|refine zA ?_|(refine zB ?_;intro K hK)|(refine zC ?_ ?_<;>(try refine zH ?_)<;>intro hcond<;>try exact zX)|fail)
        · have e : ¬ l = m := fun e => by subst e; omega
          simp [Rets, aret, Blk.cells, ty, Tryz.results38, ares, toT1, toT, borrow, borrow0, capCell, toTree0, tbool, e]
        · refine ⟨k + 1,Weak.headN 0 26 [0, 1, 12, 13] zW,?_,?_⟩
          · refine ⟨hlt, fun j hj => ?_⟩
            by_cases hjk : j = k
            · subst hjk; rw [List.getElem?_eq_getElem hlt, List.getElem?_eq_getElem hlt2]; congr 1
            · exact hx j (by omega)
          · omega
      · have e : l = m := List.ext_getElem? fun j => by
          by_cases hj : j < l.length
          · exact hx j (by omega)
          · rw [List.getElem?_eq_none (by omega), List.getElem?_eq_none (by omega)]
        repeat' (first|((first|(refine zT ?_;intro K' hK')|(refine zG ?_ ?_<;>(try refine zH ?_)<;>intro hguard<;>(try exact zX)<;>try intro K' hK'))<;>((try simp +contextual only [go_sem, Int.ofNat_lt]);(repeat' first|(with_reducible refine hK' _ _ ?_;clear hK' K')|exact zY|with_reducible refine And.intro ?_ ?_|(with_reducible intro hpath;try exact zP)|(refine hK' _ _ ?_;clear hK' K')|fail);try refine zS ?_))|(refine zE ?_;refine hK _ _ ?_;clear hK K)|(refine zN ?_;try refine zS ?_)|refine zA ?_|(refine zB ?_;intro K hK)|(refine zC ?_ ?_<;>(try refine zH ?_)<;>intro hcond<;>try exact zX)|fail)
        simp [Rets, aret, Blk.cells, ty, Tryz.results38, ares, toT1, toT, borrow, borrow0, capCell, toTree0, tbool, e]
end Go.Proofs.YtfkegnhpihoncaaGreat
set_option linter.all false
namespace Go.Proofs.YtfkegnhpihoncaaGreat
open Go.Sp
set_option linter.unusedSimpArgs false
set_option linter.unusedVariables false
set_option maxHeartbeats 4000000
set_option maxRecDepth 100000
def atE (g : G) (vs : List Int) : Int := if checkG g ≠ 0 then checkG g else if ∀ v, v ∈ vs → 0 ≤ v ∧ v < g.n then 0 else 2
def valL (v : Int) : List E → Int
  | [] => 0
  | x :: xs => (if x.a ≠ x.b ∧ (x.a = v ∨ x.b = v) then x.m else 0) + valL v xs
end Go.Proofs.YtfkegnhpihoncaaGreat
set_option linter.all false
namespace Go.Proofs.YtfkegnhpihoncaaGreat
open Go.Sp
theorem ktPair : Tryz.prog.keyTypeAt 3 121 = true := by kernel_rfl
theorem tlPair : Tryz.prog.tiled 3 121 = true := by kernel_rfl
theorem widePair : (match Tryz.prog.underlying 121 with | some (.array _ _) | some (.struct _) => true | _ => false) = true := by kernel_rfl
noncomputable def fld0 : Field := (Tryz.prog.fieldsOf 121)[0]!
noncomputable def fld1 : Field := (Tryz.prog.fieldsOf 121)[1]!
set_option maxRecDepth 100000 in
theorem klPair : KeyLaw Tryz.prog 121 (.ints 2) :=
  keyLaw_ints (m := 3) (by decide) ktPair tlPair widePair (intsKey2 (f0 := fld0) (f1 := fld1) (it := 3) (by kernel_rfl) (by kernel_rfl) (by kernel_rfl) (by kernel_rfl) (by kernel_rfl) (by kernel_rfl) (by kernel_rfl) (by kernel_rfl) (by kernel_rfl) (by kernel_rfl) (by kernel_rfl) (of_decide_eq_true (by kernel_rfl : decide (0 < Tryz.prog.types.size) = true)))
theorem klInt : KeyLaw Tryz.prog 3 .int := keyLaw_int Tryz.underlying3
end Go.Proofs.YtfkegnhpihoncaaGreat
set_option linter.all false
namespace Go.Proofs.YtfkegnhpihoncaaGreat
open Go.Sp
open Go.Sort (SWO)
set_option linter.unusedSimpArgs false
set_option linter.unusedVariables false
set_option maxHeartbeats 4000000
set_option maxRecDepth 100000
instance : Inhabited E := ⟨⟨0, 0, 0⟩⟩
def tE (e : E) : TVal := .agg (eRow e)
def cmpP (a b c d : Int) : Int := orI [cmpI a c, cmpI b d]
def cfE (x y : E) : Int := cmpP x.a x.b y.a y.b
theorem closE_ok (x y : E) : ACall Tryz.prog 138 [.agg (eRow x), .agg (eRow y)] (.t (.int .i64 (cfE x y))) := by
  refine ACall.of_body Tryz.func138 rfl (by kernel_rfl) ?_
  simp only [entry, Tryz.ntmps138, eRow]
  refine zU ?_
  repeat' (first|((first|(refine zT ?_;intro K' hK')|(refine zG ?_ ?_<;>(try refine zH ?_)<;>intro hguard<;>(try exact zX)<;>try intro K' hK'))<;>((try simp +contextual only [go_sem]);(repeat' first|(with_reducible refine hK' _ _ ?_;clear hK' K')|(with_reducible refine zK (compare_ok _ _ _ _) ?_;try simp +contextual only [go_sem])|exact zY|with_reducible refine And.intro ?_ ?_|(with_reducible intro hpath;try exact zP)|(refine hK' _ _ ?_;clear hK' K')|fail);try refine zS ?_))|(refine zE ?_;refine hK _ _ ?_;clear hK K)|(refine zN ?_;try refine zS ?_)|refine zA ?_|(refine zB ?_;intro K hK)|(refine zC ?_ ?_<;>(try refine zH ?_)<;>intro hcond<;>try exact zX)|fail)
  simp [Rets, aret, Blk.cells, ty, Tryz.results138, ares, toT1, toT, borrow, borrow0, capCell, toTree0, cfE, cmpP, tint]
theorem ltOf_cfE (x y : E) : Go.Proofs.ltOf cfE x y = true ↔ ltE x y := by
  unfold Go.Proofs.ltOf cfE cmpP orI orI cmpI ltE
  simp only [decide_eq_true_eq]
  (repeat' split) <;> simp_all [orI] <;> omega
theorem swoE : SWO (Go.Proofs.ltOf cfE) where
  irrefl x := by
    rw [← Bool.not_eq_true, ltOf_cfE]; unfold ltE; omega
  trans x y z h1 h2 := by
    rw [ltOf_cfE] at *; unfold ltE at *; omega
  ntrans x y z h1 h2 := by
    rw [← Bool.not_eq_true, ltOf_cfE] at *; unfold ltE at *; omega
noncomputable def sortE (es : List E) : List E := sortL cfE es
def neE (x y : E) : Prop := ¬ (x.a = y.a ∧ x.b = y.b)
theorem neE.symm {x y : E} (h : neE x y) : neE y x := by unfold neE at *; omega
def distinctE (es : List E) : Prop := es.Pairwise neE
theorem sortE_perm (es : List E) : (sortE es).Perm es := (sortL_spec swoE es).1
theorem sortE_sorted {es : List E} (h : distinctE es) : (sortE es).Pairwise ltE := by
  have h1 : distinctE (sortE es) := (List.Perm.pairwise_iff neE.symm (sortE_perm es)).2 h
  unfold distinctE at h1
  rw [List.pairwise_iff_getElem] at h1 ⊢
  intro i j hi hj hij
  have h2 := (sortL_spec swoE es).2 i j _ _ hij (List.getElem?_eq_getElem hi) (List.getElem?_eq_getElem hj)
  rw [← Bool.not_eq_true, ltOf_cfE] at h2
  have h3 := h1 i j hi hj hij
  unfold ltE neE at *
  simp only [sortE] at *
  omega
theorem sorted_unique {l l' : List E} (h : l.Pairwise ltE) (h' : l'.Pairwise ltE) (hp : l.Perm l') : l = l' :=
  List.Perm.eq_of_pairwise (le := ltE) (fun a b _ _ h1 h2 => by unfold ltE at *; omega) h h' hp
theorem sortE_eq {l es : List E} (h : l.Pairwise ltE) (hp : l.Perm es) : sortE es = l := by
  have hd : distinctE es := by
    refine (List.Perm.pairwise_iff neE.symm hp).1 ?_
    exact h.imp fun {x y} h => by unfold ltE at h; unfold neE; omega
  exact sorted_unique (sortE_sorted hd) h ((sortE_perm es).trans hp.symm)
theorem sortE_congr {l es : List E} (hd : distinctE es) (hp : l.Perm es) : sortE l = sortE es := by
  have hd' : distinctE l := (List.Perm.pairwise_iff neE.symm hp.symm).1 hd
  exact sorted_unique (sortE_sorted hd') (sortE_sorted hd) ((sortE_perm l).trans (hp.trans (sortE_perm es).symm))
end Go.Proofs.YtfkegnhpihoncaaGreat
set_option linter.all false
namespace Go.Proofs
open Go.Shelf
def YtfkegnhpihoncaaGreat.laySortE_ren : Go.Shelf.Ren := ⟨fun | 6 => 137 | 15 => 79 | 14 => 163 | 28 => 120 | 29 => 121 | 20 => 177 | 21 => 178 | 22 => 179 | 23 => 180 | 24 => 181 | 25 => 182 | 26 => 183 | 27 => 184 | 46 => 191 | 47 => 147 | 48 => 148 | 49 => 192 | 50 => 193 | 57 => 195 | n => n, fun | 22 => 22 | 24 => 76 | 25 => 163 | 3 => 3 | 39 => 105 | 0 => 0 | 53 => 143 | 55 => 145 | 4 => 4 | 46 => 136 | 45 => 135 | 50 => 140 | 5 => 5 | 9 => 9 | 66 => 169 | 70 => 173 | 76 => 198 | 77 => 199 | n => n, fun | n => n⟩
theorem YtfkegnhpihoncaaGreat.laySortE : Go.Proofs.SlLaysF0.n6 Tryz.prog YtfkegnhpihoncaaGreat.laySortE_ren := {
  mixed := by kernel_rfl
  f6 := ⟨Tryz.f137.name, by decide, Tryz.func137.trans (congrArg some (by kernel_rfl))⟩
  f14 := ⟨Tryz.f163.name, by decide, Tryz.func163.trans (congrArg some (by kernel_rfl))⟩
  f15 := Tryz.func79.trans (congrArg some (by kernel_rfl))
  f20 := ⟨Tryz.f177.name, by decide, Tryz.func177.trans (congrArg some (by kernel_rfl))⟩
  f21 := ⟨Tryz.f178.name, by decide, Tryz.func178.trans (congrArg some (by kernel_rfl))⟩
  f22 := ⟨Tryz.f179.name, by decide, Tryz.func179.trans (congrArg some (by kernel_rfl))⟩
  f23 := ⟨Tryz.f180.name, by decide, Tryz.func180.trans (congrArg some (by kernel_rfl))⟩
  f24 := ⟨Tryz.f181.name, by decide, Tryz.func181.trans (congrArg some (by kernel_rfl))⟩
  f25 := ⟨Tryz.f182.name, by decide, Tryz.func182.trans (congrArg some (by kernel_rfl))⟩
  f26 := ⟨Tryz.f183.name, by decide, Tryz.func183.trans (congrArg some (by kernel_rfl))⟩
  f27 := ⟨Tryz.f184.name, by decide, Tryz.func184.trans (congrArg some (by kernel_rfl))⟩
  f28 := Tryz.func120.trans (congrArg some (by kernel_rfl))
  f29 := Tryz.func121.trans (congrArg some (by kernel_rfl))
  f46 := ⟨Tryz.f191.name, by decide, Tryz.func191.trans (congrArg some (by kernel_rfl))⟩
  f47 := Tryz.func147.trans (congrArg some (by kernel_rfl))
  f48 := Tryz.func148.trans (congrArg some (by kernel_rfl))
  f49 := ⟨Tryz.f192.name, by decide, Tryz.func192.trans (congrArg some (by kernel_rfl))⟩
  f50 := ⟨Tryz.f193.name, by decide, Tryz.func193.trans (congrArg some (by kernel_rfl))⟩
  f57 := ⟨Tryz.f195.name, by decide, Tryz.func195.trans (congrArg some (by kernel_rfl))⟩
  t0 := Tryz.underlying0
  a0 := Tryz.isAgg0
  z0 := Tryz.sizeOf0
  v0 := Tryz.zeroValue0
  t3 := Tryz.underlying3
  a3 := Tryz.isAgg3
  z3 := Tryz.sizeOf3
  v3 := Tryz.zeroValue3
  t4 := Tryz.underlying4
  a4 := Tryz.isAgg4
  z4 := Tryz.sizeOf4
  v4 := Tryz.zeroValue4
  t5 := Tryz.underlying5
  a5 := Tryz.isAgg5
  z5 := Tryz.sizeOf5
  v5 := Tryz.zeroValue5
  t9 := Tryz.underlying9
  a9 := Tryz.isAgg9
  z9 := Tryz.sizeOf9
  v9 := Tryz.zeroValue9
  t22 := Tryz.underlying22
  a22 := Tryz.isAgg22
  z22 := Tryz.sizeOf22
  v22 := Tryz.zeroValue22
  t25 := Tryz.underlying163
  a25 := Tryz.isAgg163
  z25 := Tryz.sizeOf163
  v25 := Tryz.zeroValue163
  t39 := Tryz.underlying105
  a39 := Tryz.isAgg105
  z39 := Tryz.sizeOf105
  v39 := Tryz.zeroValue105
  t45 := Tryz.underlying135
  a45 := Tryz.isAgg135
  z45 := Tryz.sizeOf135
  v45 := Tryz.zeroValue135
  t46 := Tryz.underlying136
  a46 := Tryz.isAgg136
  z46 := Tryz.sizeOf136
  v46 := Tryz.zeroValue136
  t50 := Tryz.underlying140
  a50 := Tryz.isAgg140
  z50 := Tryz.sizeOf140
  v50 := Tryz.zeroValue140
  t53 := Tryz.underlying143
  a53 := Tryz.isAgg143
  z53 := Tryz.sizeOf143
  v53 := Tryz.zeroValue143
  t55 := Tryz.underlying145
  a55 := Tryz.isAgg145
  z55 := Tryz.sizeOf145
  v55 := Tryz.zeroValue145
  t66 := Tryz.underlying169
  a66 := Tryz.isAgg169
  z66 := Tryz.sizeOf169
  v66 := Tryz.zeroValue169
  t70 := Tryz.underlying173
  a70 := Tryz.isAgg173
  z70 := Tryz.sizeOf173
  v70 := Tryz.zeroValue173
  t76 := Tryz.underlying198
  a76 := Tryz.isAgg198
  z76 := Tryz.sizeOf198
  v76 := Tryz.zeroValue198
  t77 := Tryz.underlying199
  a77 := Tryz.isAgg199
  z77 := Tryz.sizeOf199
  v77 := Tryz.zeroValue199 }
def YtfkegnhpihoncaaGreat.laySortI_ren : Go.Shelf.Ren := ⟨fun | 189 => 37 | 125 => 79 | 257 => 78 | 128 => 120 | 129 => 121 | 294 => 111 | 295 => 112 | 296 => 113 | 297 => 114 | 298 => 115 | 299 => 116 | 216 => 117 | 300 => 118 | 301 => 119 | 328 => 146 | 329 => 147 | 330 => 148 | 331 => 149 | 332 => 150 | 215 => 141 | 343 => 175 | n => n, fun | 28 => 40 | 3 => 3 | 46 => 105 | 0 => 0 | 51 => 143 | 53 => 145 | 4 => 4 | 183 => 136 | 182 => 135 | 131 => 140 | 5 => 5 | 9 => 9 | 218 => 169 | 222 => 173 | 228 => 198 | 229 => 199 | n => n, fun | n => n⟩
def YtfkegnhpihoncaaGreat.laySortC_ren : Go.Shelf.Ren := ⟨fun | 6 => 100 | 15 => 79 | 14 => 140 | 28 => 120 | 29 => 121 | 20 => 164 | 21 => 165 | 22 => 166 | 23 => 167 | 24 => 168 | 25 => 169 | 26 => 170 | 27 => 171 | 46 => 185 | 47 => 147 | 48 => 148 | 49 => 186 | 50 => 187 | 57 => 194 | n => n, fun | 22 => 40 | 24 => 3 | 25 => 126 | 3 => 3 | 39 => 105 | 0 => 0 | 53 => 143 | 55 => 145 | 4 => 4 | 46 => 136 | 45 => 135 | 50 => 140 | 5 => 5 | 9 => 9 | 66 => 169 | 70 => 173 | 76 => 198 | 77 => 199 | n => n, fun | n => n⟩
theorem YtfkegnhpihoncaaGreat.laySortC : Go.Proofs.SlLaysF.n6 Tryz.prog YtfkegnhpihoncaaGreat.laySortC_ren := {
  mixed := by kernel_rfl
  f6 := ⟨Tryz.f100.name, by decide, Tryz.func100.trans (congrArg some (by kernel_rfl))⟩
  f14 := ⟨Tryz.f140.name, by decide, Tryz.func140.trans (congrArg some (by kernel_rfl))⟩
  f15 := Tryz.func79.trans (congrArg some (by kernel_rfl))
  f20 := ⟨Tryz.f164.name, by decide, Tryz.func164.trans (congrArg some (by kernel_rfl))⟩
  f21 := ⟨Tryz.f165.name, by decide, Tryz.func165.trans (congrArg some (by kernel_rfl))⟩
  f22 := ⟨Tryz.f166.name, by decide, Tryz.func166.trans (congrArg some (by kernel_rfl))⟩
  f23 := ⟨Tryz.f167.name, by decide, Tryz.func167.trans (congrArg some (by kernel_rfl))⟩
  f24 := ⟨Tryz.f168.name, by decide, Tryz.func168.trans (congrArg some (by kernel_rfl))⟩
  f25 := ⟨Tryz.f169.name, by decide, Tryz.func169.trans (congrArg some (by kernel_rfl))⟩
  f26 := ⟨Tryz.f170.name, by decide, Tryz.func170.trans (congrArg some (by kernel_rfl))⟩
  f27 := ⟨Tryz.f171.name, by decide, Tryz.func171.trans (congrArg some (by kernel_rfl))⟩
  f28 := Tryz.func120.trans (congrArg some (by kernel_rfl))
  f29 := Tryz.func121.trans (congrArg some (by kernel_rfl))
  f46 := ⟨Tryz.f185.name, by decide, Tryz.func185.trans (congrArg some (by kernel_rfl))⟩
  f47 := Tryz.func147.trans (congrArg some (by kernel_rfl))
  f48 := Tryz.func148.trans (congrArg some (by kernel_rfl))
  f49 := ⟨Tryz.f186.name, by decide, Tryz.func186.trans (congrArg some (by kernel_rfl))⟩
  f50 := ⟨Tryz.f187.name, by decide, Tryz.func187.trans (congrArg some (by kernel_rfl))⟩
  f57 := ⟨Tryz.f194.name, by decide, Tryz.func194.trans (congrArg some (by kernel_rfl))⟩
  t0 := Tryz.underlying0
  a0 := Tryz.isAgg0
  z0 := Tryz.sizeOf0
  v0 := Tryz.zeroValue0
  t3 := Tryz.underlying3
  a3 := Tryz.isAgg3
  z3 := Tryz.sizeOf3
  v3 := Tryz.zeroValue3
  t4 := Tryz.underlying4
  a4 := Tryz.isAgg4
  z4 := Tryz.sizeOf4
  v4 := Tryz.zeroValue4
  t5 := Tryz.underlying5
  a5 := Tryz.isAgg5
  z5 := Tryz.sizeOf5
  v5 := Tryz.zeroValue5
  t9 := Tryz.underlying9
  a9 := Tryz.isAgg9
  z9 := Tryz.sizeOf9
  v9 := Tryz.zeroValue9
  t22 := Tryz.underlying40
  a22 := Tryz.isAgg40
  z22 := Tryz.sizeOf40
  v22 := Tryz.zeroValue40
  a24 := Tryz.isAgg3
  z24 := Tryz.sizeOf3
  t25 := Tryz.underlying126
  a25 := Tryz.isAgg126
  z25 := Tryz.sizeOf126
  v25 := Tryz.zeroValue126
  t39 := Tryz.underlying105
  a39 := Tryz.isAgg105
  z39 := Tryz.sizeOf105
  v39 := Tryz.zeroValue105
  t45 := Tryz.underlying135
  a45 := Tryz.isAgg135
  z45 := Tryz.sizeOf135
  v45 := Tryz.zeroValue135
  t46 := Tryz.underlying136
  a46 := Tryz.isAgg136
  z46 := Tryz.sizeOf136
  v46 := Tryz.zeroValue136
  t50 := Tryz.underlying140
  a50 := Tryz.isAgg140
  z50 := Tryz.sizeOf140
  v50 := Tryz.zeroValue140
  t53 := Tryz.underlying143
  a53 := Tryz.isAgg143
  z53 := Tryz.sizeOf143
  v53 := Tryz.zeroValue143
  t55 := Tryz.underlying145
  a55 := Tryz.isAgg145
  z55 := Tryz.sizeOf145
  v55 := Tryz.zeroValue145
  t66 := Tryz.underlying169
  a66 := Tryz.isAgg169
  z66 := Tryz.sizeOf169
  v66 := Tryz.zeroValue169
  t70 := Tryz.underlying173
  a70 := Tryz.isAgg173
  z70 := Tryz.sizeOf173
  v70 := Tryz.zeroValue173
  t76 := Tryz.underlying198
  a76 := Tryz.isAgg198
  z76 := Tryz.sizeOf198
  v76 := Tryz.zeroValue198
  t77 := Tryz.underlying199
  a77 := Tryz.isAgg199
  z77 := Tryz.sizeOf199
  v77 := Tryz.zeroValue199 }
end Go.Proofs
set_option linter.all false
namespace Go.Proofs.YtfkegnhpihoncaaGreat
open Go.Sp Go.RowKit
set_option linter.unusedSimpArgs false
set_option linter.unusedVariables false
set_option maxHeartbeats 4000000
set_option maxRecDepth 100000
theorem agg71 : ∀ w, (isAgg 76).run Tryz.prog w = .ok true w := fun w => by
  have h : tAgg Tryz.prog 76 = some true := by simp only [ty]
  simp [run_tAgg h]
theorem size71 : ∀ w, (Go.sizeOf 76).run Tryz.prog w = .ok 3 w := fun w => by
  have h : tSize Tryz.prog 76 = some 3 := by simp only [ty]
  exact run_tSize h w
theorem enter77 : ∀ args w, (callFunc 137 args).run Tryz.prog w = .ok (.enter 137 args) w := Go.Proofs.enters_of Tryz.func137 (by kernel_rfl) rfl
theorem eRow_flat (e : E) : flatRow (eRow e) = true := rfl
theorem SortE_ok (es : List E) (hl : es.length < 2 ^ 60) {H : List Blk} {id cap : Nat} (hid : H[id]? = some (.box (flatRows (eRows es)))) :
    ACallH Tryz.prog 137 H [.c (.ref id 3 0 es.length cap), .c (.fn 138 [])] (H.set id (.box (flatRows (eRows (sortE es))))) (.tup []) :=
  SortFunc_call laySortE eRow 3 agg71 size71 (fun _ => rfl) eRow_flat cfE swoE 138 closE_ok enter77 es (by omega) hid
theorem SortE_none : ACall Tryz.prog 137 [.t (.slice []), .t (.fn 138 [])] (.tup []) := by
  refine ⟨enter77, fun S w vs hl hv => ?_⟩
  match vs, hl with
  | [v0, v1], _ =>
  have h0 : TRel S w (.slice []) v0 := hv 0 _ v0 rfl rfl
  have key : ∀ a c, Calls Tryz.prog 137 #[.slice a 0 c, v1] w fun e w' => ∃ v, e = .returned v ∧ TVRel (fun b o => S b o ∨ w.heap.size ≤ b) w' (.tup []) v ∧ Below w.heap.size w w' ∧ w.drawn ≤ w'.drawn := fun a c => by
    refine (Go.Proofs.AnyF.slices_SortFunc_none laySortE a c v1 w).mono ?_
    rintro e w' ⟨rfl, rfl⟩
    exact ⟨_, rfl, ⟨#[], rfl, rfl, by simp⟩, Below.refl _ _, Nat.le_refl _⟩
  cases h0 with
  | nil a c => exact key a c
  | slice b off k c rows cell hn hk hc hr => exact key _ c
end Go.Proofs.YtfkegnhpihoncaaGreat
set_option linter.all false
namespace Go.Proofs.YtfkegnhpihoncaaGreat
open Go.Sp
set_option linter.unusedSimpArgs false
set_option linter.unusedVariables false
set_option maxHeartbeats 4000000
set_option maxRecDepth 100000
def kvE (e : E) : MKey × MV := (.ints [e.a, e.b], .c (.int .i64 e.m))
def mE (es : List E) : List (MKey × MV) := es.map kvE
theorem mE_len (es : List E) : (mE es).length = es.length := by simp [mE]
theorem mE_get {es : List E} {j : Nat} {e : MKey × MV} (h : (mE es)[j]? = some e) : ∃ x, es[j]? = some x ∧ e = kvE x := by
  simp only [mE, List.getElem?_map] at h
  cases hx : es[j]? with
  | none => simp [hx] at h
  | some x => simp [hx] at h; exact ⟨x, rfl, h.symm⟩
theorem mE_at {es : List E} {j : Nat} {x : E} (h : es[j]? = some x) : (mE es)[j]? = some (kvE x) := by simp [mE, h]
def pickL {α : Type} (l : List α) (seen : List Nat) : List α := seen.filterMap (l[·]?)
theorem pickL_snoc {α : Type} {l : List α} {seen : List Nat} {j : Nat} {x : α} (h : l[j]? = some x) : pickL l (seen ++ [j]) = pickL l seen ++ [x] := by
  simp [pickL, List.filterMap_append, h]
theorem pickL_len {α : Type} {l : List α} : ∀ {seen : List Nat}, (∀ j, j ∈ seen → j < l.length) → (pickL l seen).length = seen.length := by
  intro seen
  induction seen with
  | nil => intro _; rfl
  | cons j s ih =>
    intro h
    have hj := h j (by simp)
    have := ih fun i hi => h i (by simp [hi])
    simp only [pickL] at this ⊢
    rw [List.filterMap_cons, List.getElem?_eq_getElem hj]
    simp [this]
theorem pickL_range {α : Type} (l : List α) : pickL l (List.range l.length) = l := by
  apply List.ext_getElem?
  intro i
  have hlen : (pickL l (List.range l.length)).length = l.length := by rw [pickL_len (fun j hj => by simpa using hj)]; simp
  by_cases hi : i < l.length
  · have e : List.range l.length = List.range i ++ (i :: (List.range l.length).drop (i + 1)) := by
      conv => lhs; rw [← List.take_append_drop i (List.range l.length)]
      rw [List.take_range, Nat.min_eq_left (by omega), List.drop_eq_getElem_cons (by simpa using hi)]
      simp
    rw [e]
    simp only [pickL, List.filterMap_append, List.filterMap_cons, List.getElem?_eq_getElem hi]
    have h1 : (List.filterMap (fun x => l[x]?) (List.range i)).length = i := by
      have := pickL_len (l := l) (seen := List.range i) (fun j hj => by simp at hj; omega)
      simpa [pickL] using this
    rw [List.getElem?_append_right (by omega), h1]
    simp
  · rw [List.getElem?_eq_none (by omega), List.getElem?_eq_none (by omega)]
theorem pickL_perm {α : Type} {l : List α} {seen : List Nat} (h1 : seen.Nodup) (h2 : ∀ j, j ∈ seen → j < l.length) (h3 : ∀ j, j < l.length → j ∈ seen) : (pickL l seen).Perm l := by
  have hp : seen.Perm (List.range l.length) := (List.perm_ext_iff_of_nodup h1 List.nodup_range).2 fun j => by simp only [List.mem_range]; exact ⟨h2 j, h3 j⟩
  have := List.Perm.filterMap (l[·]?) hp
  have e := pickL_range l
  unfold pickL at e ⊢
  rw [e] at this; exact this
theorem nodup_len {n : Nat} {seen : List Nat} (h1 : seen.Nodup) (h2 : ∀ j, j ∈ seen → j < n) : seen.length ≤ n := by
  have := List.Nodup.length_le_of_subset h1 (l₂ := List.range n) (fun j hj => by simp; exact h2 j hj)
  simpa using this
theorem eRows_snoc (l : List E) (x : E) : eRows l ++ [[.int .i64 x.a, .int .i64 x.b, .int .i64 x.m]] = eRows (l ++ [x]) := by simp [eRows, eRow]
theorem eRows_k' {l : List E} {r : List Tree} (h : r ∈ eRows l) : r.length = 3 := by
  obtain ⟨x, _, rfl⟩ := List.mem_map.1 h; rfl
theorem mE_safe (es : List E) : safeB (.map (mE es)) := fun e he => by
  obtain ⟨x, _, rfl⟩ := List.mem_map.1 he; exact rfl
theorem mE_safe' (es : List E) : ∀ (a : MKey) (b : MV), (a, b) ∈ mE es → safeMV b := fun a b h => mE_safe es (a, b) h
theorem safe_all {l : List Blk} (h : ∀ b, b ∈ l → safeB b) (id : Nat) (blk : Blk) (hb : l[id]? = some blk) : safeB blk := h blk (List.mem_of_getElem? hb)
theorem maps1 (es : List (MKey × MV)) (l : List Blk) : ∀ id, id < 1 → ∃ es', (Blk.map es :: l)[id]? = some (.map es') := fun id h => by
  have : id = 0 := by omega
  subst this
  exact ⟨es, rfl⟩
theorem eRows_flat {l : List E} {r : List Tree} (h : r ∈ eRows l) : flatRow r = true := by
  obtain ⟨x, _, rfl⟩ := List.mem_map.1 h; rfl
theorem eRows_ref {l : List E} {n cap : Nat} (hn : l.length = n) (hc : n ≤ cap) : refRows (flatRows (eRows l)) 3 0 n cap = some (eRows l) := by
  have := refRows_flat (rows := eRows l) (k := 3) (cap := cap) (fun r hr => eRows_k' hr) (fun r hr => eRows_flat hr) (by rw [eRows_len]; omega)
  rwa [eRows_len, hn] at this
theorem graph_ok (n : Int) (es : List E) (hdis : distinctE es) (hl : es.length < 2 ^ 20) : ACallX Tryz.prog 99 [.map (mE es)] [.c (.map 0), .c (.int .i64 n)] (tG ⟨n, sortE es⟩) := by
  refine ACallX.of_body Tryz.func99 rfl (by kernel_rfl) (by simp [isMap]) ?_
  simp only [entry, Tryz.ntmps99, ofT, ofT1, ofTree, List.map_cons, List.map_nil, List.length_cons, List.length_nil, Nat.reduceAdd, Nat.reduceSub, List.replicate_succ, List.replicate_zero, List.cons_append, List.nil_append]
  refine FWp.seq ?_
  repeat' (first|((first|(refine zT ?_;intro K' hK')|(refine zG ?_ ?_<;>(try refine zH ?_)<;>intro hguard<;>(try exact zX)<;>try intro K' hK'))<;>((try simp +contextual only [go_sem]);(repeat' first|(with_reducible refine hK' _ _ ?_;clear hK' K')|exact zY|with_reducible refine And.intro ?_ ?_|(with_reducible intro hpath;try exact zP)|(refine hK' _ _ ?_;clear hK' K')|fail);try refine zS ?_))|(refine zE ?_;refine hK _ _ ?_;clear hK K)|(refine zN ?_;try refine zS ?_)|refine zA ?_|(refine zB ?_;intro K hK)|(refine zC ?_ ?_<;>(try refine zH ?_)<;>intro hcond<;>try exact zX)|fail)
  refine FWp.seq ?_
  repeat' (first|((first|(refine zT ?_;intro K' hK')|(refine zG ?_ ?_<;>(try refine zH ?_)<;>intro hguard<;>(try exact zX)<;>try intro K' hK'))<;>((try simp +contextual only [go_sem]);(repeat' first|(with_reducible refine hK' _ _ ?_;clear hK' K')|exact zY|with_reducible refine And.intro ?_ ?_|(with_reducible intro hpath;try exact zP)|(refine hK' _ _ ?_;clear hK' K')|fail);try refine zS ?_))|(refine zE ?_;refine hK _ _ ?_;clear hK K)|(refine zN ?_;try refine zS ?_)|refine zA ?_|(refine zB ?_;intro K hK)|(refine zC ?_ ?_<;>(try refine zH ?_)<;>intro hcond<;>try exact zX)|fail)
  refine FWp.seq ?_
  refine AWp.seq ?_
  repeat' (first|((first|(refine zT ?_;intro K' hK')|(refine zG ?_ ?_<;>(try refine zH ?_)<;>intro hguard<;>(try exact zX)<;>try intro K' hK'))<;>((try simp +contextual only [go_sem]);(repeat' first|(with_reducible refine hK' _ _ ?_;clear hK' K')|exact zY|with_reducible refine And.intro ?_ ?_|(with_reducible intro hpath;try exact zP)|(refine hK' _ _ ?_;clear hK' K')|fail);try refine zS ?_))|(refine zE ?_;refine hK _ _ ?_;clear hK K)|(refine zN ?_;try refine zS ?_)|refine zA ?_|(refine zB ?_;intro K hK)|(refine zC ?_ ?_<;>(try refine zH ?_)<;>intro hcond<;>try exact zX)|fail)
  refine AWp.weak (Weak.openB 2 1 3 rfl rfl (by omega)) ?_
  simp only [List.set_cons_succ, List.set_cons_zero, List.length_cons, List.length_nil, List.length_append, Nat.reduceAdd, List.cons_append, List.nil_append]
  refine AWp.loopx (α:=List Nat) (fun seen=>(⟨.c (.map 0) :: .c (.int .i64 n) :: .c .any :: .c .any :: .c (.ptr 1 0) :: .c (.ptr 2 0) :: .c .any :: .c .any :: .c .any :: .c .any :: .c .any :: .c (.iter 3) :: .c .any :: .c .any :: .c .any :: .c .any :: .c .any :: .c .any :: .c .any :: .c .any :: .c .any :: .c .any :: .c .any :: .c .any :: .c .any :: .c .any :: .c .any :: .c .any :: .c .any :: .c .any :: .c .any :: .c .any :: [],[.map (mE es), .box [.int .i64 0, .nils], .box [.int .i64 n, .slice (eRows (pickL es seen)) (.chain 4)], .iter 0 (mE es).length seen, .chain (pickL es seen).length 3]⟩:St)) (fun seen=>seen.Nodup ∧ ∀ j, j ∈ seen → j < es.length) (fun seen=>es.length - seen.length) ([]) (Weak.headL 5 32 [0, 1, 4, 5, 11] zW) ?_ (fun seen hI=>?_)
  · exact ⟨List.nodup_nil, fun j hj => by cases hj⟩
  · obtain ⟨hn, hlt⟩ := hI
    have hsl := nodup_len hn hlt
    have hpl := pickL_len hlt
    refine AWp.seq_next rfl rfl rfl rfl rfl (fun hd K hK => ?_) (fun j e hj he K hK => ?_) <;> (try refine zS ?_)
    · have hperm : (pickL es seen).Perm es := pickL_perm hn hlt (fun j hj => hd j (by rw [mE_len]; exact hj))
      have hsort := sortE_congr hdis hperm
      repeat' (first|((first|(refine zT ?_;intro K' hK')|(refine zG ?_ ?_<;>(try refine zH ?_)<;>intro hguard<;>(try exact zX)<;>try intro K' hK'))<;>((try simp +contextual only [go_sem]);(repeat' first|(with_reducible refine hK' _ _ ?_;clear hK' K')|exact zY|with_reducible refine And.intro ?_ ?_|(with_reducible intro hpath;try exact zP)|(refine hK' _ _ ?_;clear hK' K')|fail);try refine zS ?_))|(refine zE ?_;refine hK _ _ ?_;clear hK K)|(refine zN ?_;try refine zS ?_)|refine zA ?_|(refine zB ?_;intro K hK)|(refine zC ?_ ?_<;>(try refine zH ?_)<;>intro hcond<;>try exact zX)|fail)
      by_cases hL0 : pickL es seen = []
      · rw [hL0] at hsort ⊢
        refine FWp.seq ?_
        repeat' (first|((first|(refine zT ?_;intro K' hK')|(refine zG ?_ ?_<;>(try refine zH ?_)<;>intro hguard<;>(try exact zX)<;>try intro K' hK'))<;>((try simp +contextual only [go_sem, eRows, List.map_nil]);(repeat' first|(with_reducible refine hK' _ _ ?_;clear hK' K')|(with_reducible refine zK SortE_none ?_;try simp +contextual only [go_sem, eRows, List.map_nil])|exact zY|with_reducible refine And.intro ?_ ?_|(with_reducible intro hpath;try exact zP)|(refine hK' _ _ ?_;clear hK' K')|fail);try refine zS ?_))|(refine zE ?_;refine hK _ _ ?_;clear hK K)|(refine zN ?_;try refine zS ?_)|refine zA ?_|(refine zB ?_;intro K hK)|(refine zC ?_ ?_<;>(try refine zH ?_)<;>intro hcond<;>try exact zX)|fail)
        refine FWp.of_awp ?_
        repeat' (first|((first|(refine zT ?_;intro K' hK')|(refine zG ?_ ?_<;>(try refine zH ?_)<;>intro hguard<;>(try exact zX)<;>try intro K' hK'))<;>((try simp +contextual only [go_sem]);(repeat' first|(with_reducible refine hK' _ _ ?_;clear hK' K')|exact zY|with_reducible refine And.intro ?_ ?_|(with_reducible intro hpath;try exact zP)|(refine hK' _ _ ?_;clear hK' K')|fail);try refine zS ?_))|(refine zE ?_;refine hK _ _ ?_;clear hK K)|(refine zN ?_;try refine zS ?_)|refine zA ?_|(refine zB ?_;intro K hK)|(refine zC ?_ ?_<;>(try refine zH ?_)<;>intro hcond<;>try exact zX)|fail)
        rw [← hsort]
        have hz : sortE [] = [] := List.Perm.eq_nil (sortE_perm [])
        simp [XRets, aretX, Blk.cells, ty, Tryz.results99, ares, toT1, toT, freshT, toTree0, Tree.flat, hz, eRows, tG]
      · generalize pickL es seen = L at *
        have hLl : L.length < 2 ^ 20 := by omega
        refine FWp.thawB 2 1 rfl rfl rfl (fun r hr => eRows_k' hr) (by decide) (fun r hr => flatRow_spec (eRows_flat hr)) (by simp [eRows, hL0]) (safe_all (by simp [safeB, safeC]; exact mE_safe' es)) (by simp [safeV, safeC, safeV1]) (maps1 _ _) (fun cap hcap => ?_)
        rw [eRows_len] at hcap
        have hsl2 : (sortE L).length = L.length := (sortE_perm L).length_eq
        refine FWp.seq ?_
        repeat' (first|((first|(refine zT ?_;intro K' hK')|(refine zG ?_ ?_<;>(try refine zH ?_)<;>intro hguard<;>(try exact zX)<;>try intro K' hK'))<;>((try simp +contextual only [go_sem, eRows_len]);(repeat' first|(with_reducible refine hK' _ _ ?_;clear hK' K')|((with_reducible first|refine ⟨_,_,SortE_ok L (by omega) rfl,?_⟩|refine ⟨_,SortE_ok L (by omega) rfl,?_⟩);try simp +contextual only [go_sem, eRows_len])|exact zY|with_reducible refine And.intro ?_ ?_|(with_reducible intro hpath;try exact zP)|(refine hK' _ _ ?_;clear hK' K')|fail);try refine zS ?_))|(refine zE ?_;refine hK _ _ ?_;clear hK K)|(refine zN ?_;try refine zS ?_)|refine zA ?_|(refine zB ?_;intro K hK)|(refine zC ?_ ?_<;>(try refine zH ?_)<;>intro hcond<;>try exact zX)|fail)
        refine FWp.of_awp ?_
        repeat' (first|((first|(refine zT ?_;intro K' hK')|(refine zG ?_ ?_<;>(try refine zH ?_)<;>intro hguard<;>(try exact zX)<;>try intro K' hK'))<;>((try simp +contextual only [go_sem]);(repeat' first|(with_reducible refine hK' _ _ ?_;clear hK' K')|exact zY|with_reducible refine And.intro ?_ ?_|(with_reducible intro hpath;try exact zP)|(refine hK' _ _ ?_;clear hK' K')|fail);try refine zS ?_))|(refine zE ?_;refine hK _ _ ?_;clear hK K)|(refine zN ?_;try refine zS ?_)|refine zA ?_|(refine zB ?_;intro K hK)|(refine zC ?_ ?_<;>(try refine zH ?_)<;>intro hcond<;>try exact zX)|fail)
        rw [← hsort]
        have hr := eRows_ref hsl2 hcap
        simp [XRets, aretX, Blk.cells, ty, Tryz.results99, ares, toT1, toT, freshT, toTree0, Tree.flat, hr, tG]
    · obtain ⟨x, hx, rfl⟩ := mE_get he
      have hje : j < es.length := (List.getElem?_eq_some_iff.1 hx).1
      have hsnoc := pickL_snoc (seen := seen) hx
      simp only [kvE, keyVal, mvVal]
      repeat' (first|((first|(refine zT ?_;intro K' hK')|(refine zG ?_ ?_<;>(try refine zH ?_)<;>intro hguard<;>(try exact zX)<;>try intro K' hK'))<;>((try simp +contextual only [go_sem, mE_at hx, kvE, mE_len, eRows_len, chunks, List.range, List.range.loop, eRows_snoc, hpl]);(repeat' first|(with_reducible refine hK' _ _ ?_;clear hK' K')|(with_reducible exact eRows_k' (by assumption))|exact zY|with_reducible refine And.intro ?_ ?_|(with_reducible intro hpath;try exact zP)|(refine hK' _ _ ?_;clear hK' K')|fail);try refine zS ?_))|(refine zE ?_;refine hK _ _ ?_;clear hK K)|(refine zN ?_;try refine zS ?_)|refine zA ?_|(refine zB ?_;intro K hK)|(refine zC ?_ ?_<;>(try refine zH ?_)<;>intro hcond<;>try exact zX)|fail)
      refine ⟨seen ++ [j],Weak.headN 5 32 [0, 1, 4, 5, 11] zW (e1:=by first|rfl|(simp [mask,keepL, hsnoc, mE_len, hpl];done)|(simp [mask,keepL, hsnoc, mE_len, hpl]<;>simp_all<;>omega)) (e2:=by first|rfl|(simp [mask,keepL, hsnoc, mE_len, hpl];done)|(simp [mask,keepL, hsnoc, mE_len, hpl]<;>simp_all<;>omega)),?_,?_⟩
      · refine ⟨List.nodup_append.2 ⟨hn, by simp, fun a ha b hb => by simp at hb; subst hb; rintro rfl; exact hj ha⟩, fun i hi => ?_⟩
        rcases List.mem_append.1 hi with hi | hi
        · exact hlt i hi
        · simp at hi; subst hi; exact hje
      · have := nodup_len (n := es.length) (seen := seen ++ [j]) (List.nodup_append.2 ⟨hn, by simp, fun a ha b hb => by simp at hb; subst hb; rintro rfl; exact hj ha⟩) (fun i hi => by
          rcases List.mem_append.1 hi with hi | hi
          · exact hlt i hi
          · simp at hi; subst hi; exact hje)
        simp at this ⊢
        omega
end Go.Proofs.YtfkegnhpihoncaaGreat
set_option linter.all false
namespace Go.Proofs.YtfkegnhpihoncaaGreat
open Go.Sp
set_option linter.unusedSimpArgs false
set_option linter.unusedVariables false
set_option maxHeartbeats 4000000
set_option maxRecDepth 100000
theorem mapBag : tMap Tryz.prog 118 = some (121, 3) := by simp only [ty]
theorem zero3 : tZero Tryz.prog 3 = some (.int .i64 0) := by simp only [ty]
def cntL : List E → Int → Int → Int
  | [], _, _ => 0
  | x :: xs, a, b => if x.a = a ∧ x.b = b then x.m else cntL xs a b
def bagPut : List E → Int → Int → Int → List E
  | [], a, b, m => [⟨a, b, m⟩]
  | x :: xs, a, b, m => if x.a = a ∧ x.b = b then ⟨a, b, m⟩ :: xs else x :: bagPut xs a b m
theorem key_eq (x : E) (a b : Int) : ((kvE x).1 == MKey.ints [a, b]) = decide (x.a = a ∧ x.b = b) := by
  rw [Bool.eq_iff_iff]; simp [kvE]
theorem mIdx_cons (x : E) (xs : List E) (a b : Int) : mIdx (mE (x :: xs)) (.ints [a, b]) = if x.a = a ∧ x.b = b then some 0 else (mIdx (mE xs) (.ints [a, b])).map (· + 1) := by
  simp only [mIdx, mE, List.map_cons, List.findIdx?_cons, key_eq]
  by_cases h : x.a = a ∧ x.b = b <;> simp [h]
theorem mVal_mE (es : List E) (a b : Int) : mVal (mE es) (.ints [a, b]) (.c (.int .i64 0)) = .c (.int .i64 (cntL es a b)) := by
  induction es with
  | nil => simp [mVal, mIdx, mE, cntL]
  | cons x xs ih =>
    unfold mVal at ih ⊢
    rw [mIdx_cons]
    by_cases h : x.a = a ∧ x.b = b
    · simp [h, cntL, mE, kvE]
    · rw [if_neg h]
      simp only [cntL, if_neg h, ← ih]
      cases hx : mIdx (mE xs) (.ints [a, b]) with
      | none => rfl
      | some j => simp [mE]
theorem mPut_mE (es : List E) (a b m : Int) : mPut (mE es) (.ints [a, b]) (.c (.int .i64 m)) = mE (bagPut es a b m) := by
  induction es with
  | nil => simp [mPut, mIdx, mE, bagPut, kvE]
  | cons x xs ih =>
    unfold mPut at ih ⊢
    rw [mIdx_cons]
    by_cases h : x.a = a ∧ x.b = b
    · simp [h, bagPut, mE, kvE]
    · rw [if_neg h]
      simp only [bagPut, if_neg h]
      have e : mE (x :: bagPut xs a b m) = kvE x :: mE (bagPut xs a b m) := rfl
      rw [e, ← ih]
      cases hx : mIdx (mE xs) (.ints [a, b]) with
      | none => simp [mE]
      | some j => simp [mE]
def bagStep (es : List E) (p : Int × Int) : List E := bagPut es (min p.1 p.2) (max p.1 p.2) (cntL es (min p.1 p.2) (max p.1 p.2) + 1)
def bagL (l : List (Int × Int)) : List E := l.foldl bagStep []
theorem mStamp_lt (es : List (MKey × MV)) (k : MKey) (z : MV) : mStamp es k < (mAdd es k z).length := by
  unfold mStamp mAdd mHas
  cases h : mIdx es k with
  | none => simp
  | some i =>
    obtain ⟨v, hv⟩ := mIdx_some h
    have := (List.getElem?_eq_some_iff.1 hv).1
    simpa using this
theorem bagL_snoc (l : List (Int × Int)) (p : Int × Int) : bagL (l ++ [p]) = bagStep (bagL l) p := by simp [bagL]
theorem bagPut_mem {es : List E} {a b m : Int} {e : E} (h : e ∈ bagPut es a b m) : e ∈ es ∨ e = ⟨a, b, m⟩ := by
  induction es with
  | nil => simp [bagPut] at h; exact .inr h
  | cons x xs ih =>
    simp only [bagPut] at h
    split at h
    · rcases List.mem_cons.1 h with h | h
      · exact .inr h
      · exact .inl (by simp [h])
    · rcases List.mem_cons.1 h with h | h
      · exact .inl (by simp [h])
      · rcases ih h with h | h
        · exact .inl (by simp [h])
        · exact .inr h
theorem bagPut_distinct {es : List E} {a b m : Int} (h : distinctE es) : distinctE (bagPut es a b m) := by
  induction es with
  | nil => simp [bagPut, distinctE]
  | cons x xs ih =>
    unfold distinctE at *
    rw [List.pairwise_cons] at h
    simp only [bagPut]
    split
    · rename_i hx
      refine List.pairwise_cons.2 ⟨fun y hy => ?_, h.2⟩
      have := h.1 y hy
      unfold neE at *; simp only; omega
    · rename_i hx
      refine List.pairwise_cons.2 ⟨fun y hy => ?_, ih h.2⟩
      rcases bagPut_mem hy with hy | hy
      · exact h.1 y hy
      · subst hy; unfold neE; simp only; omega
theorem bagPut_len (es : List E) (a b m : Int) : (bagPut es a b m).length ≤ es.length + 1 := by
  induction es with
  | nil => simp [bagPut]
  | cons x xs ih => simp only [bagPut]; split <;> simp <;> omega
theorem cntL_le {es : List E} {a b k : Int} (h : ∀ e, e ∈ es → e.m ≤ k) (hk : 0 ≤ k) : cntL es a b ≤ k := by
  induction es with
  | nil => simpa [cntL] using hk
  | cons x xs ih => simp only [cntL]; split; exact h x (by simp); exact ih fun e he => h e (by simp [he])
theorem cntL_ge {es : List E} {a b : Int} (h : ∀ e, e ∈ es → 1 ≤ e.m) : 0 ≤ cntL es a b := by
  induction es with
  | nil => simp [cntL]
  | cons x xs ih => simp only [cntL]; split; have := h x (by simp); omega; exact ih fun e he => h e (by simp [he])
structure BagOk (n : Int) (k : Nat) (es : List E) : Prop where
  d : distinctE es
  len : es.length ≤ k
  m : ∀ e, e ∈ es → 1 ≤ e.m ∧ e.m ≤ k
  r : ∀ e, e ∈ es → 0 ≤ e.a ∧ e.a ≤ e.b ∧ e.b < n
theorem bag_step {n : Int} {k : Nat} {es : List E} (h : BagOk n k es) {p : Int × Int} (h1 : 0 ≤ p.1 ∧ p.1 < n) (h2 : 0 ≤ p.2 ∧ p.2 < n) : BagOk n (k + 1) (bagStep es p) := by
  have c1 := cntL_le (a := min p.1 p.2) (b := max p.1 p.2) (k := k) (fun e he => (h.m e he).2) (by omega)
  have c2 := cntL_ge (a := min p.1 p.2) (b := max p.1 p.2) (fun e he => (h.m e he).1)
  refine ⟨bagPut_distinct h.d, Nat.le_trans (bagPut_len ..) (by have := h.len; omega), fun e he => ?_, fun e he => ?_⟩
  · rcases bagPut_mem he with he | rfl
    · have := h.m e he; omega
    · simp only; omega
  · rcases bagPut_mem he with he | rfl
    · exact h.r e he
    · simp only; omega
theorem bag_keys {n : Int} {k : Nat} {es : List E} (hn : n ≤ 12) (h : BagOk n k es) : ∀ e, e ∈ mE es → (KShape.ints 2).ok e.1 = true := by
  intro e he
  obtain ⟨x, hx, rfl⟩ := List.mem_map.1 he
  have := h.r x hx
  simp only [KShape.ok, kvE, List.length_cons, List.length_nil, Bool.and_eq_true, beq_iff_eq, List.all_eq_true, List.mem_cons, List.not_mem_nil, or_false, decide_eq_true_eq]
  exact ⟨trivial, fun y hy => by rcases hy with rfl | rfl <;> omega⟩
theorem key_ok {a b : Int} (h1 : 0 ≤ a ∧ a < 12) (h2 : 0 ≤ b ∧ b < 12) : (KShape.ints 2).ok (.ints [a, b]) = true := by
  simp only [KShape.ok, List.length_cons, List.length_nil, Bool.and_eq_true, beq_iff_eq, List.all_eq_true, List.mem_cons, List.not_mem_nil, or_false, decide_eq_true_eq]
  exact ⟨trivial, fun y hy => by rcases hy with rfl | rfl <;> omega⟩
open Classical in
noncomputable def makeE (n : Int) (l : List (Int × Int)) : G × Int :=
  if n < 1 ∨ 12 < n then (⟨0, []⟩, 2) else if 4096 < l.length then (⟨0, []⟩, 5)
  else if ∃ p, p ∈ l ∧ ¬ ((0 ≤ p.1 ∧ p.1 < n) ∧ (0 ≤ p.2 ∧ p.2 < n)) then (⟨0, []⟩, 2)
  else if ∃ e, e ∈ bagL l ∧ 50 < e.m then (⟨0, []⟩, 5) else (⟨n, sortE (bagL l)⟩, 0)
theorem Make_ok (n : Int) (l : List (Int × Int)) (hl : l.length < 2 ^ 40) : ACall Tryz.prog 57 [tint n, tpairs l] (.tup [tG (makeE n l).1, tint (makeE n l).2]) := by
  refine ACall.of_body Tryz.func57 rfl (by kernel_rfl) ?_
  simp only [entry, Tryz.ntmps57, tint, tpairs]
  refine zU ?_
  repeat' (first|((first|(refine zT ?_;intro K' hK')|(refine zG ?_ ?_<;>(try refine zH ?_)<;>intro hguard<;>(try exact zX)<;>try intro K' hK'))<;>((try simp +contextual only [go_sem, pRows_len, Int.ofNat_lt]);(repeat' first|(with_reducible refine hK' _ _ ?_;clear hK' K')|exact zY|with_reducible refine And.intro ?_ ?_|(with_reducible intro hpath;try exact zP)|(refine hK' _ _ ?_;clear hK' K')|fail);try refine zS ?_))|(refine zE ?_;refine hK _ _ ?_;clear hK K)|(refine zN ?_;try refine zS ?_)|refine zA ?_|(refine zB ?_;intro K hK)|(refine zC ?_ ?_<;>(try refine zH ?_)<;>intro hcond<;>try exact zX)|fail)
  · have e : makeE n l = (⟨0, []⟩, 2) := by unfold makeE; rw [if_pos (by omega)]
    simp [Rets, aret, Blk.cells, ty, Tryz.results57, ares, toT1, toT, borrow, borrow0, capCell, toTree0, tint, tG, e, eRows]
  · have e : makeE n l = (⟨0, []⟩, 5) := by unfold makeE; rw [if_neg (by omega), if_pos (by omega)]
    simp [Rets, aret, Blk.cells, ty, Tryz.results57, ares, toT1, toT, borrow, borrow0, capCell, toTree0, tint, tG, e, eRows]
  · have hl2 : l.length ≤ 4096 := by omega
    refine AWp.loopx (α:=Nat) (fun i=>(⟨.c (.int .i64 n) :: .c .any :: .c .any :: .c .any :: .c (.ptr 0 0) :: .c .any :: .c (.map 1) :: .c .any :: .c .any :: .c .any :: .c .any :: .c .any :: .c .any :: .c .any :: .c .any :: .c .any :: .c .any :: .c .any :: .c .any :: .c .any :: .c .any :: .c .any :: .c .any :: .c (.slice (pRows l) .none) :: .c (.int .i64 (l.length : Int)) :: .c (.int .i64 (i : Int)) :: .c .any :: .c .any :: .c .any :: .c .any :: .c .any :: .c .any :: .c .any :: .c .any :: .c .any :: .c .any :: .c .any :: .c .any :: .c .any :: .c .any :: .c .any :: .c .any :: .c .any :: .c .any :: .c .any :: .c .any :: .c .any :: .c .any :: .c .any :: .c .any :: .c .any :: .c .any :: .c .any :: .c .any :: .c .any :: .c .any :: .c .any :: .c .any :: .c .any :: .c .any :: .c .any :: .c .any :: .c .any :: .c .any :: .c .any :: [],[.box [.int .i64 0, .nils], .map (mE (bagL (l.take i)))]⟩:St)) (fun i=>i ≤ l.length ∧ (∀ j, j < i → ∀ p, l[j]? = some p → (0 ≤ p.1 ∧ p.1 < n) ∧ (0 ≤ p.2 ∧ p.2 < n)) ∧ BagOk n i (bagL (l.take i))) (fun i=>l.length - i) (0) (Weak.headL 2 65 [0, 4, 6, 23, 24, 25] zW) ?_ (fun i hI=>?_)
    · refine ⟨Nat.zero_le _, fun j hj => by omega, ?_⟩
      simp only [List.take_zero, bagL, List.foldl_nil]
      exact ⟨List.Pairwise.nil, by simp, by simp, by simp⟩
    · obtain ⟨hi, hval, hbag⟩ := hI
      by_cases hlt : i < l.length
      · have e0 := List.getElem?_eq_getElem hlt
        have e1 := pRows_get e0
        have hsn : l.take (i + 1) = l.take i ++ [l[i]] := List.take_succ_eq_append_getElem hlt
        generalize l[i] = p at *
        by_cases hv : (0 ≤ p.1 ∧ p.1 < n) ∧ (0 ≤ p.2 ∧ p.2 < n)
        · have hk := key_ok (a := min p.1 p.2) (b := max p.1 p.2) (by omega) (by omega)
          have hks := bag_keys (by omega) hbag
          have hc1 := cntL_le (a := min p.1 p.2) (b := max p.1 p.2) (k := i) (fun e he => (hbag.m e he).2) (by omega)
          have hc2 := cntL_ge (a := min p.1 p.2) (b := max p.1 p.2) (fun e he => (hbag.m e he).1)
          have hst := bag_step hbag hv.1 hv.2
          rw [← bagL_snoc, ← hsn] at hst
          have hnx : bagL (l.take (i + 1)) = bagStep (bagL (l.take i)) p := by rw [hsn, bagL_snoc]
          generalize bagL (l.take i) = es at *
          repeat' (first|(with_reducible refine AWp.seq_drawM mapBag klPair zero3 (by with_unfolding_all rfl) (by with_unfolding_all kernel_rfl) (fun K hK=>?_))|(with_reducible refine AWp.last_drawM mapBag klPair zero3 (by with_unfolding_all rfl) (by with_unfolding_all kernel_rfl) (fun K hK=>?_))|((first|(refine zT ?_;intro K' hK')|(refine zG ?_ ?_<;>(try refine zH ?_)<;>intro hguard<;>(try exact zX)<;>try intro K' hK'))<;>((try simp +contextual only [go_sem, e1, Int.toNat_natCast, Int.ofNat_lt, pRows_len, toKey, mVal_mE, hv.1, hv.2, mSet_mAdd, mPut_mE]);(repeat' first|(with_reducible refine hK' _ _ ?_;clear hK' K')|((with_reducible first|refine zK (vertex_ok _ _) ?_|refine zK (joined_ok _ _) ?_);try simp +contextual only [go_sem, e1, Int.toNat_natCast, Int.ofNat_lt, pRows_len, toKey, mVal_mE, hv.1, hv.2, mSet_mAdd, mPut_mE])|(exact hk)|(exact hks)|(with_reducible refine ⟨_,rfl,?_⟩;try simp +contextual only [go_sem, e1, Int.toNat_natCast, Int.ofNat_lt, pRows_len, toKey, mVal_mE, hv.1, hv.2, mSet_mAdd, mPut_mE])|(exact mStamp_lt _ _ _)|exact zY|with_reducible refine And.intro ?_ ?_|(with_reducible intro hpath;try exact zP)|(refine hK' _ _ ?_;clear hK' K')|fail);try refine zS ?_))|(refine zE ?_;refine hK _ _ ?_;clear hK K)|(refine zN ?_;try refine zS ?_)|refine zA ?_|(refine zB ?_;intro K hK)|(refine zC ?_ ?_<;>(try refine zH ?_)<;>intro hcond<;>try exact zX)|fail)
          refine ⟨i + 1,Weak.headN 2 65 [0, 4, 6, 23, 24, 25] zW (e1:=by first|rfl|(simp [mask,keepL, hnx, bagStep];done)|(simp [mask,keepL, hnx, bagStep]<;>simp_all<;>omega)) (e2:=by first|rfl|(simp [mask,keepL, hnx, bagStep];done)|(simp [mask,keepL, hnx, bagStep]<;>simp_all<;>omega)),?_,?_⟩
          · refine ⟨hlt, fun j hj q hjq => ?_, hst⟩
            by_cases hji : j = i
            · subst hji; rw [e0] at hjq; cases hjq; exact hv
            · exact hval j (by omega) q hjq
          · omega
        · have e : makeE n l = (⟨0, []⟩, 2) := by
            unfold makeE
            rw [if_neg (by omega), if_neg (by omega), if_pos ⟨p, List.mem_of_getElem? e0, hv⟩]
          repeat' (first|((first|(refine zT ?_;intro K' hK')|(refine zG ?_ ?_<;>(try refine zH ?_)<;>intro hguard<;>(try exact zX)<;>try intro K' hK'))<;>((try simp +contextual only [go_sem, e1, Int.toNat_natCast, Int.ofNat_lt, pRows_len]);(repeat' first|(with_reducible refine hK' _ _ ?_;clear hK' K')|(with_reducible refine zK (vertex_ok _ _) ?_;try simp +contextual only [go_sem, e1, Int.toNat_natCast, Int.ofNat_lt, pRows_len])|exact zY|with_reducible refine And.intro ?_ ?_|(with_reducible intro hpath;try exact zP)|(refine hK' _ _ ?_;clear hK' K')|fail);try refine zS ?_))|(refine zE ?_;refine hK _ _ ?_;clear hK K)|(refine zN ?_;try refine zS ?_)|refine zA ?_|(refine zB ?_;intro K hK)|(refine zC ?_ ?_<;>(try refine zH ?_)<;>intro hcond<;>try exact zX)|fail)
          all_goals first
            | (exfalso; simp_all; omega)
            | (
              simp [Rets, aret, Blk.cells, ty, Tryz.results57, ares, toT1, toT, borrow, borrow0, capCell, toTree0, tint, tG, e, eRows]
              done)
      · have ei : i = l.length := by omega
        subst ei
        rw [List.take_length] at hbag ⊢
        have hall : ¬ ∃ p, p ∈ l ∧ ¬ ((0 ≤ p.1 ∧ p.1 < n) ∧ (0 ≤ p.2 ∧ p.2 < n)) := fun ⟨p, hp, hv⟩ => by
          obtain ⟨j, hj⟩ := List.mem_iff_getElem?.1 hp
          exact hv (hval j (List.getElem?_eq_some_iff.1 hj).1 p hj)
        have hes : ∀ es, es = bagL l → makeE n l = if ∃ e, e ∈ es ∧ 50 < e.m then (⟨0, []⟩, 5) else (⟨n, sortE es⟩, 0) := fun es he => by
          unfold makeE
          rw [if_neg (by omega), if_neg (by omega), if_neg hall, he]
        generalize bagL l = es at *
        have hmk := hes es rfl
        have hel := hbag.len
        repeat' (first|((first|(refine zT ?_;intro K' hK')|(refine zG ?_ ?_<;>(try refine zH ?_)<;>intro hguard<;>(try exact zX)<;>try intro K' hK'))<;>((try simp +contextual only [go_sem, Int.ofNat_lt]);(repeat' first|(with_reducible refine hK' _ _ ?_;clear hK' K')|exact zY|with_reducible refine And.intro ?_ ?_|(with_reducible intro hpath;try exact zP)|(refine hK' _ _ ?_;clear hK' K')|fail);try refine zS ?_))|(refine zE ?_;refine hK _ _ ?_;clear hK K)|(refine zN ?_;try refine zS ?_)|refine zA ?_|(refine zB ?_;intro K hK)|(refine zC ?_ ?_<;>(try refine zH ?_)<;>intro hcond<;>try exact zX)|fail)
        refine AWp.loopx (α:=List Nat) (fun seen=>(⟨.c (.int .i64 n) :: .c .any :: .c .any :: .c .any :: .c (.ptr 0 0) :: .c .any :: .c (.map 1) :: .c .any :: .c .any :: .c .any :: .c .any :: .c .any :: .c .any :: .c .any :: .c .any :: .c .any :: .c .any :: .c .any :: .c .any :: .c .any :: .c .any :: .c .any :: .c .any :: .c .any :: .c .any :: .c .any :: .c .any :: .c .any :: .c .any :: .c .any :: .c .any :: .c .any :: .c .any :: .c .any :: .c .any :: .c .any :: .c .any :: .c .any :: .c .any :: .c .any :: .c .any :: .c .any :: .c .any :: .c .any :: .c .any :: .c .any :: .c .any :: .c .any :: .c .any :: .c .any :: .c .any :: .c .any :: .c .any :: .c .any :: .c (.iter 2) :: .c .any :: .c .any :: .c .any :: .c .any :: .c .any :: .c .any :: .c .any :: .c .any :: .c .any :: .c .any :: [],[.box [.int .i64 0, .nils], .map (mE es), .iter 1 (mE es).length seen]⟩:St)) (fun seen=>seen.Nodup ∧ (∀ j, j ∈ seen → j < es.length) ∧ ∀ j, j ∈ seen → ∀ e, es[j]? = some e → e.m ≤ 50) (fun seen=>es.length - seen.length) ([]) (Weak.headL 3 65 [0, 4, 6, 54] zW) ?_ (fun seen hI=>?_)
        · exact ⟨List.nodup_nil, fun j hj => (by cases hj), fun j hj => (by cases hj)⟩
        · obtain ⟨hn, hlt2, hm50⟩ := hI
          have hsl := nodup_len hn hlt2
          refine AWp.seq_next rfl rfl rfl rfl rfl (fun hd K hK => ?_) (fun j e hj he K hK => ?_) <;> (try refine zS ?_)
          · have e : makeE n l = (⟨n, sortE es⟩, 0) := by
              rw [hmk, if_neg]
              rintro ⟨e, he, h50⟩
              obtain ⟨j, hj⟩ := List.mem_iff_getElem?.1 he
              have := hm50 j (hd j (by rw [mE_len]; exact (List.getElem?_eq_some_iff.1 hj).1)) e hj
              omega
            repeat' (first|((first|(refine zT ?_;intro K' hK')|(refine zG ?_ ?_<;>(try refine zH ?_)<;>intro hguard<;>(try exact zX)<;>try intro K' hK'))<;>((try simp +contextual only [go_sem]);(repeat' first|(with_reducible refine hK' _ _ ?_;clear hK' K')|((with_reducible first|refine ⟨_,_,ACallX.h1 (graph_ok n es hbag.d (by omega)) (by with_unfolding_all rfl) (by with_unfolding_all rfl),?_⟩|refine ⟨_,ACallX.h1 (graph_ok n es hbag.d (by omega)) (by with_unfolding_all rfl) (by with_unfolding_all rfl),?_⟩);try simp +contextual only [go_sem])|exact zY|with_reducible refine And.intro ?_ ?_|(with_reducible intro hpath;try exact zP)|(refine hK' _ _ ?_;clear hK' K')|fail);try refine zS ?_))|(refine zE ?_;refine hK _ _ ?_;clear hK K)|(refine zN ?_;try refine zS ?_)|refine zA ?_|(refine zB ?_;intro K hK)|(refine zC ?_ ?_<;>(try refine zH ?_)<;>intro hcond<;>try exact zX)|fail)
            simp [Rets, aret, Blk.cells, ty, Tryz.results57, ares, toT1, toT, borrow, borrow0, capCell, toTree0, tint, tG, e, eRows]
          · obtain ⟨x, hx, rfl⟩ := mE_get he
            have hje : j < es.length := (List.getElem?_eq_some_iff.1 hx).1
            have hnd : (seen ++ [j]).Nodup := List.nodup_append.2 ⟨hn, by simp, fun a ha b hb => by simp at hb; subst hb; rintro rfl; exact hj ha⟩
            have hlt3 : ∀ i, i ∈ seen ++ [j] → i < es.length := fun i hi => by
              rcases List.mem_append.1 hi with hi | hi
              · exact hlt2 i hi
              · simp at hi; subst hi; exact hje
            have hsl2 := nodup_len hnd hlt3
            simp only [kvE, keyVal, mvVal]
            repeat' (first|((first|(refine zT ?_;intro K' hK')|(refine zG ?_ ?_<;>(try refine zH ?_)<;>intro hguard<;>(try exact zX)<;>try intro K' hK'))<;>((try simp +contextual only [go_sem, mE_at hx, kvE, mE_len]);(repeat' first|(with_reducible refine hK' _ _ ?_;clear hK' K')|exact zY|with_reducible refine And.intro ?_ ?_|(with_reducible intro hpath;try exact zP)|(refine hK' _ _ ?_;clear hK' K')|fail);try refine zS ?_))|(refine zE ?_;refine hK _ _ ?_;clear hK K)|(refine zN ?_;try refine zS ?_)|refine zA ?_|(refine zB ?_;intro K hK)|(refine zC ?_ ?_<;>(try refine zH ?_)<;>intro hcond<;>try exact zX)|fail)
            · have e : makeE n l = (⟨0, []⟩, 5) := by
                rw [hmk, if_pos ⟨x, List.mem_of_getElem? hx, by omega⟩]
              simp [Rets, aret, Blk.cells, ty, Tryz.results57, ares, toT1, toT, borrow, borrow0, capCell, toTree0, tint, tG, e, eRows]
            · refine ⟨seen ++ [j],Weak.headN 3 65 [0, 4, 6, 54] zW (e1:=by first|rfl|(simp [mask,keepL, mE_len];done)|(simp [mask,keepL, mE_len]<;>simp_all<;>omega)) (e2:=by first|rfl|(simp [mask,keepL, mE_len];done)|(simp [mask,keepL, mE_len]<;>simp_all<;>omega)),?_,?_⟩
              · refine ⟨hnd, hlt3, fun i hi e hie => ?_⟩
                rcases List.mem_append.1 hi with hi | hi
                · exact hm50 i hi e hie
                · simp at hi; subst hi; rw [hx] at hie; cases hie; omega
              · simp at hsl2 ⊢; omega
  · have e : makeE n l = (⟨0, []⟩, 2) := by unfold makeE; rw [if_pos (by omega)]
    simp [Rets, aret, Blk.cells, ty, Tryz.results57, ares, toT1, toT, borrow, borrow0, capCell, toTree0, tint, tG, e, eRows]
end Go.Proofs.YtfkegnhpihoncaaGreat
set_option linter.all false
namespace Go.Proofs.YtfkegnhpihoncaaGreat
open Go.Sp
set_option linter.unusedSimpArgs false
set_option linter.unusedVariables false
set_option maxHeartbeats 4000000
set_option maxRecDepth 100000
instance : DecidableEq E := fun x y => decidable_of_iff (x.a = y.a ∧ x.b = y.b ∧ x.m = y.m) (by cases x; cases y; simp)
theorem Same_ok (g h : G) (hl : g.es.length < 2 ^ 40) (hm : h.es.length < 2 ^ 40) : ACall Tryz.prog 69 [tG g, tG h] (tbool (decide (g.n = h.n ∧ g.es = h.es))) := by
  refine ACall.of_body Tryz.func69 rfl (by kernel_rfl) ?_
  simp only [entry, Tryz.ntmps69, tG]
  refine zU ?_
  repeat' (first|((first|(refine zT ?_;intro K' hK')|(refine zG ?_ ?_<;>(try refine zH ?_)<;>intro hguard<;>(try exact zX)<;>try intro K' hK'))<;>((try simp +contextual only [go_sem, eRows_len]);(repeat' first|(with_reducible refine hK' _ _ ?_;clear hK' K')|exact zY|with_reducible refine And.intro ?_ ?_|(with_reducible intro hpath;try exact zP)|(refine hK' _ _ ?_;clear hK' K')|fail);try refine zS ?_))|(refine zE ?_;refine hK _ _ ?_;clear hK K)|(refine zN ?_;try refine zS ?_)|refine zA ?_|(refine zB ?_;intro K hK)|(refine zC ?_ ?_<;>(try refine zH ?_)<;>intro hcond<;>try exact zX)|fail)
  · have e : ¬ (g.n = h.n ∧ g.es = h.es) := fun e => by
      have := congrArg List.length e.2; omega
    simp [Rets, aret, Blk.cells, ty, Tryz.results69, ares, toT1, toT, borrow, borrow0, capCell, toTree0, tbool, e]
  · have hlm : g.es.length = h.es.length := by omega
    have hn : g.n = h.n := by omega
    refine AWp.loopx (α:=Nat) (fun k=>(⟨.c .any :: .c .any :: .c (.ptr 0 0) :: .c (.ptr 1 0) :: .c .any :: .c (.int .i64 (k : Int)) :: .c .any :: .c .any :: .c .any :: .c .any :: .c .any :: .c .any :: .c .any :: .c .any :: .c .any :: .c .any :: .c .any :: .c .any :: .c .any :: .c .any :: .c .any :: .c .any :: .c .any :: .c .any :: .c .any :: .c .any :: .c .any :: .c .any :: .c .any :: .c .any :: .c .any :: .c .any :: .c .any :: .c .any :: .c .any :: .c .any :: .c .any :: .c .any :: [],[.box [.int .i64 g.n, .slice (eRows g.es) .none], .box [.int .i64 h.n, .slice (eRows h.es) .none]]⟩:St)) (fun k=>k ≤ g.es.length ∧ ∀ j, j < k → g.es[j]? = h.es[j]?) (fun k=>g.es.length - k) (0) (Weak.headL 2 38 [2, 3, 5] zW) ?_ (fun k hI=>?_)
    · exact ⟨Nat.zero_le _, fun j hj => by omega⟩
    · obtain ⟨hk, hx⟩ := hI
      by_cases hlt : k < g.es.length
      · have hlt2 : k < h.es.length := by omega
        have e0 := List.getElem?_eq_getElem hlt
        have e0' := List.getElem?_eq_getElem hlt2
        have e1 := eRows_get e0
        have e2 := eRows_get e0'
        repeat' (first|((first|(refine zT ?_;intro K' hK')|(refine zG ?_ ?_<;>(try refine zH ?_)<;>intro hguard<;>(try exact zX)<;>try intro K' hK'))<;>((try simp +contextual only [go_sem, e1, e2, Int.toNat_natCast, Int.ofNat_lt, eRows_len, cellInt]);(repeat' first|(with_reducible refine hK' _ _ ?_;clear hK' K')|(refine ⟨_, _, rfl, rfl, eqEdge, rfl, ?_⟩)|exact zY|with_reducible refine And.intro ?_ ?_|(with_reducible intro hpath;try exact zP)|(refine hK' _ _ ?_;clear hK' K')|fail);try refine zS ?_))|(refine zE ?_;refine hK _ _ ?_;clear hK K)|(refine zN ?_;try refine zS ?_)|refine zA ?_|(refine zB ?_;intro K hK)|(refine zC ?_ ?_<;>(try refine zH ?_)<;>intro hcond<;>try exact zX)|fail)
        · have e : ¬ (g.n = h.n ∧ g.es = h.es) := fun e => by
            have := e.2; simp_all
          simp [Rets, aret, Blk.cells, ty, Tryz.results69, ares, toT1, toT, borrow, borrow0, capCell, toTree0, tbool, e]
        · refine ⟨k + 1,Weak.headN 2 38 [2, 3, 5] zW,?_,?_⟩
          · refine ⟨hlt, fun j hj => ?_⟩
            by_cases hjk : j = k
            · subst hjk
              rw [e0, e0']
              cases hg : g.es[j]; cases hh : h.es[j]
              simp_all
            · exact hx j (by omega)
          · omega
      · have e : g.n = h.n ∧ g.es = h.es := ⟨hn, List.ext_getElem? fun j => by
          by_cases hj : j < g.es.length
          · exact hx j (by omega)
          · rw [List.getElem?_eq_none (by omega), List.getElem?_eq_none (by omega)]⟩
        repeat' (first|((first|(refine zT ?_;intro K' hK')|(refine zG ?_ ?_<;>(try refine zH ?_)<;>intro hguard<;>(try exact zX)<;>try intro K' hK'))<;>((try simp +contextual only [go_sem, Int.ofNat_lt, eRows_len]);(repeat' first|(with_reducible refine hK' _ _ ?_;clear hK' K')|exact zY|with_reducible refine And.intro ?_ ?_|(with_reducible intro hpath;try exact zP)|(refine hK' _ _ ?_;clear hK' K')|fail);try refine zS ?_))|(refine zE ?_;refine hK _ _ ?_;clear hK K)|(refine zN ?_;try refine zS ?_)|refine zA ?_|(refine zB ?_;intro K hK)|(refine zC ?_ ?_<;>(try refine zH ?_)<;>intro hcond<;>try exact zX)|fail)
        simp [Rets, aret, Blk.cells, ty, Tryz.results69, ares, toT1, toT, borrow, borrow0, capCell, toTree0, tbool, e]
  · have e : ¬ (g.n = h.n ∧ g.es = h.es) := fun e => by omega
    simp [Rets, aret, Blk.cells, ty, Tryz.results69, ares, toT1, toT, borrow, borrow0, capCell, toTree0, tbool, e]
end Go.Proofs.YtfkegnhpihoncaaGreat
set_option linter.all false
namespace Go.Proofs.YtfkegnhpihoncaaGreat
open Go.Sp
set_option linter.unusedSimpArgs false
set_option linter.unusedVariables false
set_option maxHeartbeats 4000000
set_option maxRecDepth 100000
def fT (F : List Nat) : List Tree := F.map fun (n : Nat) => Tree.int .i64 (n : Int)
def fC (F : List Nat) : List ACell := F.map fun (n : Nat) => ACell.int .i64 (n : Int)
structure FOk (F : List Nat) : Prop where
  len : F.length = 12
  le : ∀ i (h : i < F.length), F[i] ≤ i
theorem fT_drop {F : List Nat} {i : Nat} (h : i < F.length) : (fT F).drop i = .int .i64 F[i] :: (fT F).drop (i + 1) := by
  have h' : i < (fT F).length := by simp [fT, h]
  rw [List.drop_eq_getElem_cons h']
  simp [fT]
def rootF (F : List Nat) : Nat → Nat → Nat
  | 0, v => v
  | n + 1, v => if F.getD v v = v then v else rootF F n (F.getD v v)
theorem rootF_fuel {F : List Nat} (h : FOk F) : ∀ {n m v : Nat}, v < 12 → v ≤ n → v ≤ m → rootF F n v = rootF F m v := by
  intro n
  induction n with
  | zero =>
    intro m v _ h1 h2
    have : v = 0 := by omega
    subst this
    cases m with
    | zero => rfl
    | succ m =>
      have h3 := h.le 0 (by rw [h.len]; omega)
      simp only [rootF]
      rw [List.getD_eq_getElem?_getD, List.getElem?_eq_getElem (by rw [h.len]; omega), Option.getD_some, if_pos (by omega)]
  | succ n ih =>
    intro m v hv h1 h2
    have hl : v < F.length := by rw [h.len]; exact hv
    have h3 := h.le v hl
    have e : F.getD v v = F[v] := by rw [List.getD_eq_getElem?_getD, List.getElem?_eq_getElem hl, Option.getD_some]
    cases m with
    | zero =>
      have : v = 0 := by omega
      subst this
      simp only [rootF, e]
      rw [if_pos (by omega)]
    | succ m =>
      simp only [rootF, e]
      by_cases hx : F[v] = v
      · rw [if_pos hx, if_pos hx]
      · rw [if_neg hx, if_neg hx]
        exact ih (by omega) (by omega) (by omega)
theorem rootF_step {F : List Nat} (h : FOk F) {v : Nat} (hv : v < F.length) : rootF F 12 v = if F[v] = v then v else rootF F 12 F[v] := by
  have hv' : v < 12 := by rw [← h.len]; exact hv
  have e : F.getD v v = F[v] := by rw [List.getD_eq_getElem?_getD, List.getElem?_eq_getElem hv, Option.getD_some]
  have h3 := h.le v hv
  have : rootF F 12 v = if F[v] = v then v else rootF F 11 F[v] := by
    show (if F.getD v v = v then v else rootF F 11 (F.getD v v)) = _
    rw [e]
  rw [this]
  by_cases hx : F[v] = v
  · rw [if_pos hx, if_pos hx]
  · rw [if_neg hx, if_neg hx]; exact rootF_fuel h (by omega) (by omega) (by omega)
theorem rootF_le {F : List Nat} (h : FOk F) : ∀ {n v : Nat}, v < 12 → rootF F n v ≤ v := by
  intro n
  induction n with
  | zero => intro v _; exact Nat.le_refl _
  | succ n ih =>
    intro v hv
    have hl : v < F.length := by rw [h.len]; exact hv
    have h3 := h.le v hl
    have e : F.getD v v = F[v] := by rw [List.getD_eq_getElem?_getD, List.getElem?_eq_getElem hl, Option.getD_some]
    simp only [rootF, e]
    split
    · exact Nat.le_refl _
    · exact Nat.le_trans (ih (by omega)) h3
end Go.Proofs.YtfkegnhpihoncaaGreat
set_option linter.all false
namespace Go.Proofs.YtfkegnhpihoncaaGreat
open Go.Sp
set_option linter.unusedSimpArgs false
set_option linter.unusedVariables false
set_option maxHeartbeats 4000000
set_option maxRecDepth 100000
def genStep (s : List Nat × Int) (p : Int × Int) : List Nat × Int :=
  let a := rootF s.1 12 p.1.toNat
  let b := rootF s.1 12 p.2.toNat
  (s.1.set (max a b) (min a b), if a = b then s.2 + 1 else s.2)
def genS (l : List (Int × Int)) : List Nat × Int := l.foldl genStep (List.range 12, 0)
def genL (l : List (Int × Int)) : Int := (genS l).2
theorem genS_snoc (l : List (Int × Int)) (p : Int × Int) : genS (l ++ [p]) = genStep (genS l) p := by simp [genS]
theorem genStep_ok {s : List Nat × Int} {p : Int × Int} (h : FOk s.1) (h1 : 0 ≤ p.1 ∧ p.1 < 12) (h2 : 0 ≤ p.2 ∧ p.2 < 12) : FOk (genStep s p).1 := by
  refine ⟨by simp [genStep, h.len], fun i hi => ?_⟩
  simp only [genStep] at hi ⊢
  rw [List.getElem_set]
  split
  · omega
  · exact h.le i (by simpa using hi)
theorem genS_ok {l : List (Int × Int)} (h : ∀ p, p ∈ l → (0 ≤ p.1 ∧ p.1 < 12) ∧ (0 ≤ p.2 ∧ p.2 < 12)) : FOk (genS l).1 ∧ 0 ≤ (genS l).2 ∧ (genS l).2 ≤ l.length := by
  have key : ∀ (l : List (Int × Int)) (s : List Nat × Int), FOk s.1 → (∀ p, p ∈ l → (0 ≤ p.1 ∧ p.1 < 12) ∧ (0 ≤ p.2 ∧ p.2 < 12)) → FOk (l.foldl genStep s).1 ∧ s.2 ≤ (l.foldl genStep s).2 ∧ (l.foldl genStep s).2 ≤ s.2 + l.length := by
    intro l
    induction l with
    | nil => intro s hs _; simp; exact hs
    | cons p l ih =>
      intro s hs hp
      have hp1 := hp p (by simp)
      obtain ⟨q1, q2, q3⟩ := ih (genStep s p) (genStep_ok hs hp1.1 hp1.2) fun q hq => hp q (by simp [hq])
      refine ⟨q1, ?_, ?_⟩
      · refine Int.le_trans ?_ q2; simp only [genStep]; split <;> omega
      · refine Int.le_trans q3 ?_; simp only [genStep, List.length_cons]; split <;> omega
  have := key l (List.range 12, 0) ⟨by simp, fun i hi => by simp⟩ h
  unfold genS
  simpa using this
theorem fC_set (F : List Nat) (i n : Nat) : setMany (fC F) i [.int .i64 (n : Int)] = fC (F.set i n) := by
  simp only [setMany, fC]
  rw [List.map_set]
theorem fC_set2 (F : List Nat) (i n : Nat) : (fC F).set i (.int .i64 (n : Int)) = fC (F.set i n) := by
  simp only [fC]
  rw [List.map_set]
theorem fC_len (F : List Nat) : (fC F).length = F.length := by simp [fC]
theorem endsL_mem {es : List E} {p : Int × Int} (h : p ∈ endsL es) : ∃ e, e ∈ es ∧ p = (e.a, e.b) := by
  unfold endsL at h
  obtain ⟨e, he, hp⟩ := List.mem_flatMap.1 h
  exact ⟨e, he, (List.mem_replicate.1 hp).2⟩
theorem ends_range {g : G} (hc : checkG g = 0) {p : Int × Int} (h : p ∈ endsL g.es) : (0 ≤ p.1 ∧ p.1 < g.n) ∧ (0 ≤ p.2 ∧ p.2 < g.n) := by
  obtain ⟨e, he, rfl⟩ := endsL_mem h
  have := (checkG_zero.1 hc).2.1 e he
  unfold okE at this
  simp only; omega
theorem mapM_fT (F : List Nat) : (fC F).mapM toTree0 = some (fT F) := by
  induction F with
  | nil => rfl
  | cons x xs ih =>
    simp only [fC, fT, List.map_cons, List.mapM_cons, toTree0] at ih ⊢
    rw [ih]; rfl
def initF (i : Nat) : List Nat := List.range i ++ List.replicate (12 - i) 0
theorem initF_set {i : Nat} (h : i < 12) : (initF i).set i i = initF (i + 1) := by
  unfold initF
  rw [show 12 - i = (12 - (i + 1)) + 1 by omega, List.replicate_succ, List.range_succ]
  rw [List.set_append_right _ _ (by simp)]
  simp
theorem initF_len {i : Nat} (h : i ≤ 12) : (initF i).length = 12 := by unfold initF; simp; omega
theorem initF_12 : initF 12 = List.range 12 := by unfold initF; simp
end Go.Proofs.YtfkegnhpihoncaaGreat
set_option linter.all false
namespace Go.Proofs.YtfkegnhpihoncaaGreat
open Go.Sp
set_option linter.unusedSimpArgs false
set_option linter.unusedVariables false
set_option maxHeartbeats 4000000
set_option maxRecDepth 100000
def b2i (p : Prop) [Decidable p] : Int := if p then 1 else 0
def degL (v : Int) : List (Int × Int) → Int
  | [] => 0
  | p :: l => b2i (p.1 = v) + b2i (p.2 = v) + degL v l
theorem degL_append (v : Int) (a b : List (Int × Int)) : degL v (a ++ b) = degL v a + degL v b := by
  induction a with
  | nil => simp [degL]
  | cons x xs ih => simp only [List.cons_append, degL, ih]; omega
theorem degL_snoc (v : Int) (l : List (Int × Int)) (p : Int × Int) : degL v (l ++ [p]) = degL v l + b2i (p.1 = v) + b2i (p.2 = v) := by
  rw [degL_append]; simp only [degL]; omega
end Go.Proofs.YtfkegnhpihoncaaGreat
set_option linter.all false
namespace Go.Proofs.YtfkegnhpihoncaaGreat
open Go.Sp
set_option linter.unusedSimpArgs false
set_option linter.unusedVariables false
set_option maxHeartbeats 4000000
set_option maxRecDepth 100000
def subE (n : Int) : Option Int → List Int → Int
  | _, [] => 0
  | p, v :: l => if ¬ (0 ≤ v ∧ v < n) then 2 else if (∃ u, p = some u ∧ v ≤ u) then 9 else subE n (some v) l
def subG (g : G) (l : List Int) : Int := if checkG g ≠ 0 then checkG g else subE g.n none l
def sepB (set : List Int) (p : Int × Int) : Bool := !decide (decide (p.1 ∈ set) = decide (p.2 ∈ set))
def cutL (set : List Int) (l : List (Int × Int)) : List Int := l.zipIdx.filterMap fun q => if sepB set q.1 then some (q.2 : Int) else none
end Go.Proofs.YtfkegnhpihoncaaGreat
