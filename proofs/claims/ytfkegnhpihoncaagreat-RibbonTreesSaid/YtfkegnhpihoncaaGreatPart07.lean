/- A part of the proof. -/
import Derived.Test.YtfkegnhpihoncaaGreatPart06
import Derived.Test.YtfkegnhpihoncaaGreatLayerC
set_option linter.all false
set_option maxHeartbeats 4000000
set_option maxRecDepth 100000
namespace Go.Proofs.YtfkegnhpihoncaaGreat
open Go.Sp
theorem itemsP_ps {l : List (Int × Int)} {n : Nat} (hn : n = 2) (k : Nat) (ts : List TVal) (h : (itemsP l)[k]? = some ts) : ts.length = n := by
 obtain ⟨p, _, rfl⟩ := itemsP_inv h; exact hn.symm
theorem take_snoc {α : Type} {l : List α} {k : Nat} {p : α} (h : l[k]? = some p) : l.take (k + 1) = l.take k ++ [p] := by
 obtain ⟨hk, rfl⟩ := List.getElem?_eq_some_iff.1 h
 exact List.take_succ_eq_append_getElem hk
theorem checkE_zero {n : Int} {es : List E} : ∀ {k : Nat}, k ≤ es.length → (checkE n es k = 0 ↔ ∀ i, es.length - k ≤ i → i < es.length → edgeE n es i = 0) := by
 intro k
 induction k with
 | zero => intro _; simp only [checkE, true_iff]; intro i h1 h2; omega
 | succ k ih =>
  intro hk
  simp only [checkE]
  by_cases h : edgeE n es (es.length - (k + 1)) = 0
  ·rw [if_neg (by simp [h]), ih (by omega)]
   constructor
   ·intro hx i h1 h2
    by_cases e : i = es.length - (k + 1)
    ·subst e; exact h
    ·exact hx i (by omega) h2
   ·intro hx i h1 h2; exact hx i (by omega) h2
  ·rw [if_pos h]
   constructor
   ·intro hx; exact absurd hx h
   ·intro hx; exact absurd (hx _ (Nat.le_refl _) (by omega)) h
def ltE (x y : E) : Prop := x.a < y.a ∨ (x.a = y.a ∧ x.b < y.b)
def okE (n : Int) (x : E) : Prop := 0 ≤ x.a ∧ x.a ≤ x.b ∧ x.b < n ∧ 1 ≤ x.m ∧ x.m ≤ 50
theorem edgeE_iff {n : Int} {es : List E} {i : Nat} (hi : i < es.length) : edgeE n es i = 0 ↔ okE n es[i] ∧ ∀ j (hj : j + 1 = i), ltE (es[j]'(by omega)) es[i] := by
 unfold edgeE okE ltE
 rw [List.getElem?_eq_getElem hi]
 simp only
 by_cases h1 : ¬ (0 ≤ es[i].a ∧ es[i].a < n) ∨ ¬ (0 ≤ es[i].b ∧ es[i].b < n) ∨ es[i].m < 1 ∨ 50 < es[i].m
 ·rw [if_pos h1]; constructor
  ·intro h; omega
  ·rintro ⟨h, _⟩; omega
 ·rw [if_neg h1]
  by_cases h2 : es[i].b < es[i].a
  ·rw [if_pos h2]; constructor
   ·intro h; omega
   ·rintro ⟨h, _⟩; omega
  ·rw [if_neg h2]
   cases i with
   | zero => simp only [true_iff]; exact ⟨by omega, fun j hj => by omega⟩
   | succ j =>
    have hj : j < es.length := by omega
    simp only [List.getElem?_eq_getElem hj]
    constructor
    ·intro h
     split at h
     ·omega
     ·refine ⟨by omega, fun j' e => ?_⟩
      have : j' = j := by omega
      subst this; omega
    ·rintro ⟨h, h3⟩
     have := h3 j rfl
     rw [if_neg (by omega)]
theorem checkG_zero {g : G} : checkG g = 0 ↔ (1 ≤ g.n ∧ g.n ≤ 12) ∧ (∀ e, e ∈ g.es → okE g.n e) ∧ g.es.Pairwise ltE := by
 unfold checkG
 by_cases h1 : g.n < 1 ∨ 12 < g.n
 ·rw [if_pos h1]; constructor
  ·intro h; omega
  ·rintro ⟨h, _⟩; omega
 ·rw [if_neg h1, checkE_zero (Nat.le_refl _), Nat.sub_self]
  constructor
  ·intro h
   refine ⟨by omega, fun e he => ?_, ?_⟩
   ·obtain ⟨i, hi, rfl⟩ := List.mem_iff_getElem.1 he
    exact ((edgeE_iff hi).1 (h i (Nat.zero_le _) hi)).1
   ·rw [List.pairwise_iff_getElem]
    intro i j hi hj hij
    have step : ∀ d (hd : i + 1 + d < g.es.length), ltE g.es[i] g.es[i + 1 + d] := by
     intro d
     induction d with
     | zero => intro hd; exact ((edgeE_iff hd).1 (h _ (Nat.zero_le _) hd)).2 i (by omega)
     | succ d ih =>
      intro hd
      have h2 := ih (by omega)
      have h3 := ((edgeE_iff hd).1 (h _ (Nat.zero_le _) hd)).2 (i + 1 + d) (by omega)
      unfold ltE at *; omega
    have := step (j - (i + 1)) (by omega)
    have e : i + 1 + (j - (i + 1)) = j := by omega
    simp only [e] at this
    exact this
  ·rintro ⟨_, h2, h3⟩ i _ hi
   rw [List.pairwise_iff_getElem] at h3
   exact (edgeE_iff hi).2 ⟨h2 _ (List.getElem_mem hi), fun j hj => h3 j i (by omega) hi (by omega)⟩
theorem endsL_len {es : List E} (h : ∀ e, e ∈ es → e.m ≤ 50) : (endsL es).length ≤ 50 * es.length := by
 induction es with
 | nil => simp [endsL]
 | cons x xs ih =>
  have h1 := h x (by simp)
  have h2 := ih fun e he => h e (by simp [he])
  have e : endsL (x :: xs) = endsL [x] ++ endsL xs := by rw [← endsL_append]; rfl
  rw [e, List.length_append, endsL_one, List.length_replicate, List.length_cons]; omega
structure Sm (g : G) : Prop where
 es : g.es.length < 2 ^ 40
 m : ∀ e, e ∈ g.es → e.m < 2 ^ 40
 s : (endsL g.es).length < 2 ^ 40
theorem sm_of {g : G} (hl : g.es.length < 2 ^ 30) (h : checkG g = 0) : Sm g := by
 obtain ⟨_, h2, _⟩ := checkG_zero.1 h
 refine ⟨by omega, fun e he => ?_, ?_⟩
 ·have := h2 e he; unfold okE at this; omega
 ·have := endsL_len (es := g.es) fun e he => by have := h2 e he; unfold okE at this; omega
  omega
def tpairs (l : List (Int × Int)) : TVal := .t (.slice (pRows l))
attribute [go_sem] tpairs
theorem Ends_ok (g : G) (hl : g.es.length < 2 ^ 30) : ACall Tryz.prog 108 [tG g] (if checkG g ≠ 0 then .tup [.t (.slice []), tint (checkG g)] else .tup [tpairs (endsL g.es), tint 0]) := by
 refine ACall.of_body Tryz.func108 rfl (by kernel_rfl) ?_
 simp only [entry, Tryz.ntmps108, tG]
 refine zU ?_
 repeat' (first|((first|(refine zT ?_;intro K' hK')|(refine zG ?_ ?_<;>(try refine zH ?_)<;>intro hguard<;>(try exact zX)<;>try intro K' hK'))<;>((try simp +contextual only [go_sem]);(repeat' first|(with_reducible refine hK' _ _ ?_;clear hK' K')|((with_reducible first|refine zL (c:=Check_ok g (by omega)) (q:=?_)|refine zK (singles_ok g) ?_);try simp +contextual only [go_sem])|exact zY|with_reducible refine And.intro ?_ ?_|(with_reducible intro hpath;try exact zP)|(refine hK' _ _ ?_;clear hK' K')|fail);try refine zS ?_))|(refine zE ?_;refine hK _ _ ?_;clear hK K)|(refine zN ?_;try refine zS ?_)|refine zA ?_|(refine zB ?_;intro K hK)|(refine zC ?_ ?_<;>(try refine zH ?_)<;>intro hcond<;>try exact zX)|fail)
 ·rw [if_pos (by assumption)]
  simp [Rets, aret, Blk.cells, ty, Tryz.results108, ares, toT1, toT, borrow, borrow0, capCell, toTree0, tint]
 ·
  rw [if_neg (by omega)]
  have hs := sm_of hl (by omega)
  refine AWp.weak (Weak.openB 1 0 2 rfl rfl (by omega)) ?_
  simp only [List.set_cons_succ, List.set_cons_zero, List.length_cons, List.length_nil, List.length_append, Nat.reduceAdd, List.cons_append, List.nil_append]
  refine AWp.weak (Weak.head (m := 3) (by omega) ((fun t f => [f, t, f, f, f, t, f, f, f, f, f, f, f, f, t, f, f, f, f, f, f, f, f, f, f, f]) true false) (by first | rfl | simp [mask]) (by first | rfl | simp) (by (repeat' (first | exact valsIn_nil _ | refine valsIn_cons ?_ ?_ | refine cellsIn_cons ?_ ?_ | exact cellsIn_nil _ | exact True.intro | (show _ < _; omega) | (intro c hc; cases hc; done) | (intro c hc; simp only [List.mem_cons, List.not_mem_nil, or_false] at hc; subst hc; exact True.intro) | (intro c hc; simp only [List.mem_cons, List.not_mem_nil, or_false] at hc; rcases hc with rfl | rfl <;> exact True.intro)))) (by (repeat' (first | exact valsIn_nil _ | exact blksIn_nil _ | exact cellsIn_nil _ | refine And.intro ?_ ?_ | refine valsIn_cons ?_ ?_ | refine blksIn_cons ?_ ?_ | refine cellsIn_cons ?_ ?_ | exact True.intro | (show _ < _; omega) | exact cellsIn_map (fun _ => True.intro) | (intro c hc; cases hc; done) | (intro c hc; simp only [List.mem_cons, List.not_mem_nil, or_false] at hc; subst hc; exact True.intro) | (intro c hc; simp only [List.mem_cons, List.not_mem_nil, or_false] at hc; rcases hc with rfl | rfl <;> exact True.intro))))) (AWp.rangeFunc (fun k H => H = [.box [.int .i64 g.n, .slice (eRows g.es) .none], .box [.slice (pRows ((endsL g.es).take k)) (.chain 2)], .chain ((endsL g.es).take k).length 2] ∧ (True)) (fun _ _ => False) 3 rfl (singles1_ok g hs.s hs.es hs.m) (itemsP_ps rfl) (by omega) (by (repeat' (first | exact valsIn_nil _ | refine valsIn_cons ?_ ?_ | refine cellsIn_cons ?_ ?_ | exact cellsIn_nil _ | exact True.intro | (show _ < _; omega) | (intro c hc; cases hc; done) | (intro c hc; simp only [List.mem_cons, List.not_mem_nil, or_false] at hc; subst hc; exact True.intro) | (intro c hc; simp only [List.mem_cons, List.not_mem_nil, or_false] at hc; rcases hc with rfl | rfl <;> exact True.intro)))) (by rintro _ _ ⟨rfl, -⟩; simp) (fun _ _ h => h.elim) ?_ (fun l k ts H hts hI => ?_) (fun H hI => ?_) (fun e H h => h.elim))
  ·exact ⟨rfl, trivial⟩
  ·obtain ⟨rfl, -⟩ := hI
   obtain ⟨p, hp, rfl⟩ := itemsP_inv hts
   simp only [mask, setPs, List.zip_cons_cons, List.zip_nil_right, List.zip_nil_left, List.foldl_cons, List.foldl_nil, List.set_cons_succ, List.set_cons_zero, ofT, ofT1, ofTree, List.map_cons, List.map_nil, ofT, ofT1, toT, toT1, toTree0, tint, tbool, tpair, tG]
   have hk : k < (endsL g.es).length := (List.getElem?_eq_some_iff.1 hp).1
   have hkl : ((endsL g.es).take k).length = k := by rw [List.length_take]; omega
   have := hs.s
   refine zRc (zc @pRows_len (zc @pRows_snoc (zc @hkl trivial))) trivial @pRows_k' ?_
   refine ⟨⟨_, _⟩, Weak.head2 (m := 3) (by decide) ((fun t f => [f, f, f, f, f, f, f, f, f, f, f, f, f, f, f, f, f, f, f, f, f, f, f, f, f, f]) true false) rfl rfl zW, ?_, ?_⟩
   ·simp [take_snoc hp, hkl]
   ·trivial
  ·obtain ⟨rfl, -⟩ := hI
   simp only [mask]
   refine zR trivial trivial trivial ?_
   simp [Rets, aret, Blk.cells, ty, Tryz.results108, ares, toT1, toT, borrow, borrow0, capCell, toTree0, tint, tpairs, itemsP_len]
end Go.Proofs.YtfkegnhpihoncaaGreat
