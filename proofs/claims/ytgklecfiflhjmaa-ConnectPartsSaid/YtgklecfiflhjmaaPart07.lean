/- A part of the proof. -/
import Derived.Test.YtgklecfiflhjmaaPart06
import Derived.Test.YtgklecfiflhjmaaLayerC
set_option linter.all false
set_option maxHeartbeats 4000000
set_option maxRecDepth 100000
namespace Go.Proofs.Ytgklecfiflhjmaa
open Go.Sp
theorem itemsP_ps {l : List (Int × Int)} {n : Nat} (hn : n = 2) (k : Nat) (ts : List TVal) (h : (itemsP l)[k]? = some ts) : ts.length = n := by
 obtain ⟨p, _, rfl⟩ := itemsP_inv h; exact hn.symm
theorem take_snoc {α : Type} {l : List α} {k : Nat} {p : α} (h : l[k]? = some p) : l.take (k + 1) = l.take k ++ [p] := by
 obtain ⟨hk, rfl⟩ := List.getElem?_eq_some_iff.1 h
 exact List.take_succ_eq_append_getElem hk
theorem checkE_zero {n : Int} {es : List E} : ∀ {k : Nat}, k ≤ es.length → (checkE n es k = 0 ↔ ∀ i, es.length - k ≤ i → i < es.length → edgeE n es i = 0) := by
 intro k
 induction k with
 | zero => intro _; simp only [checkE, true_iff]; intro i h1 h2; omega
 | succ k ih =>
  intro hk
  simp only [checkE]
  by_cases h : edgeE n es (es.length - (k + 1)) = 0
  ·rw [if_neg (by simp [h]), ih (by omega)]
   constructor
   ·intro hx i h1 h2
    by_cases e : i = es.length - (k + 1)
    ·subst e; exact h
    ·exact hx i (by omega) h2
   ·intro hx i h1 h2; exact hx i (by omega) h2
  ·rw [if_pos h]
   constructor
   ·intro hx; exact absurd hx h
   ·intro hx; exact absurd (hx _ (Nat.le_refl _) (by omega)) h
def ltE (x y : E) : Prop := x.a < y.a ∨ (x.a = y.a ∧ x.b < y.b)
def okE (n : Int) (x : E) : Prop := 0 ≤ x.a ∧ x.a ≤ x.b ∧ x.b < n ∧ 1 ≤ x.m ∧ x.m ≤ 50
theorem edgeE_iff {n : Int} {es : List E} {i : Nat} (hi : i < es.length) : edgeE n es i = 0 ↔ okE n es[i] ∧ ∀ j (hj : j + 1 = i), ltE (es[j]'(by omega)) es[i] := by
 unfold edgeE okE ltE
 rw [List.getElem?_eq_getElem hi]
 simp only
 by_cases h1 : ¬ (0 ≤ es[i].a ∧ es[i].a < n) ∨ ¬ (0 ≤ es[i].b ∧ es[i].b < n) ∨ es[i].m < 1 ∨ 50 < es[i].m
 ·rw [if_pos h1]; constructor
  ·intro h; omega
  ·rintro ⟨h, _⟩; omega
 ·rw [if_neg h1]
  by_cases h2 : es[i].b < es[i].a
  ·rw [if_pos h2]; constructor
   ·intro h; omega
   ·rintro ⟨h, _⟩; omega
  ·rw [if_neg h2]
   cases i with
   | zero => simp only [true_iff]; exact ⟨by omega, fun j hj => by omega⟩
   | succ j =>
    have hj : j < es.length := by omega
    simp only [List.getElem?_eq_getElem hj]
    constructor
    ·intro h
     split at h
     ·omega
     ·refine ⟨by omega, fun j' e => ?_⟩
      have : j' = j := by omega
      subst this; omega
    ·rintro ⟨h, h3⟩
     have := h3 j rfl
     rw [if_neg (by omega)]
theorem checkG_zero {g : G} : checkG g = 0 ↔ (1 ≤ g.n ∧ g.n ≤ 12) ∧ (∀ e, e ∈ g.es → okE g.n e) ∧ g.es.Pairwise ltE := by
 unfold checkG
 by_cases h1 : g.n < 1 ∨ 12 < g.n
 ·rw [if_pos h1]; constructor
  ·intro h; omega
  ·rintro ⟨h, _⟩; omega
 ·rw [if_neg h1, checkE_zero (Nat.le_refl _), Nat.sub_self]
  constructor
  ·intro h
   refine ⟨by omega, fun e he => ?_, ?_⟩
   ·obtain ⟨i, hi, rfl⟩ := List.mem_iff_getElem.1 he
    exact ((edgeE_iff hi).1 (h i (Nat.zero_le _) hi)).1
   ·rw [List.pairwise_iff_getElem]
    intro i j hi hj hij
    have step : ∀ d (hd : i + 1 + d < g.es.length), ltE g.es[i] g.es[i + 1 + d] := by
     intro d
     induction d with
     | zero => intro hd; exact ((edgeE_iff hd).1 (h _ (Nat.zero_le _) hd)).2 i (by omega)
     | succ d ih =>
      intro hd
      have h2 := ih (by omega)
      have h3 := ((edgeE_iff hd).1 (h _ (Nat.zero_le _) hd)).2 (i + 1 + d) (by omega)
      unfold ltE at *; omega
    have := step (j - (i + 1)) (by omega)
    have e : i + 1 + (j - (i + 1)) = j := by omega
    simp only [e] at this
    exact this
  ·rintro ⟨_, h2, h3⟩ i _ hi
   rw [List.pairwise_iff_getElem] at h3
   exact (edgeE_iff hi).2 ⟨h2 _ (List.getElem_mem hi), fun j hj => h3 j i (by omega) hi (by omega)⟩
theorem endsL_len {es : List E} (h : ∀ e, e ∈ es → e.m ≤ 50) : (endsL es).length ≤ 50 * es.length := by
 induction es with
 | nil => simp [endsL]
 | cons x xs ih =>
  have h1 := h x (by simp)
  have h2 := ih fun e he => h e (by simp [he])
  have e : endsL (x :: xs) = endsL [x] ++ endsL xs := by rw [← endsL_append]; rfl
  rw [e, List.length_append, endsL_one, List.length_replicate, List.length_cons]; omega
structure Sm (g : G) : Prop where
 es : g.es.length < 2 ^ 40
 m : ∀ e, e ∈ g.es → e.m < 2 ^ 40
 s : (endsL g.es).length < 2 ^ 40
theorem sm_of {g : G} (hl : g.es.length < 2 ^ 30) (h : checkG g = 0) : Sm g := by
 obtain ⟨_, h2, _⟩ := checkG_zero.1 h
 refine ⟨by omega, fun e he => ?_, ?_⟩
 ·have := h2 e he; unfold okE at this; omega
 ·have := endsL_len (es := g.es) fun e he => by have := h2 e he; unfold okE at this; omega
  omega
def tpairs (l : List (Int × Int)) : TVal := .t (.slice (pRows l))
attribute [go_sem] tpairs
theorem Ends_ok (g : G) (hl : g.es.length < 2 ^ 30) : ACall Try.prog 74 [tG g] (if checkG g ≠ 0 then .tup [.t (.slice []), tint (checkG g)] else .tup [tpairs (endsL g.es), tint 0]) := by
 refine ACall.of_body Try.func74 rfl (by kernel_rfl) ?_
 simp only [entry, Try.ntmps74, tG]
 refine zU ?_
 repeat' (first|((first|(refine zT ?_;intro K' hK')|(refine zG ?_ ?_<;>(try refine zH ?_)<;>intro hguard<;>(try exact zX)<;>try intro K' hK'))<;>((try simp +contextual only [go_sem]);(repeat' first|(with_reducible refine hK' _ _ ?_;clear hK' K')|((with_reducible first|refine zL (c:=Check_ok g (by omega)) (q:=?_)|refine zK (singles_ok g) ?_);try simp +contextual only [go_sem])|exact zY|with_reducible refine And.intro ?_ ?_|(with_reducible intro hpath;try exact zP)|(refine hK' _ _ ?_;clear hK' K')|fail);try refine zS ?_))|(refine zE ?_;refine hK _ _ ?_;clear hK K)|(refine zN ?_;try refine zS ?_)|refine zA ?_|(refine zB ?_;intro K hK)|(refine zC ?_ ?_<;>(try refine zH ?_)<;>intro hcond<;>try exact zX)|fail)
 ·rw [if_pos (by assumption)]
  simp [Rets, aret, Blk.cells, ty, Try.results74, ares, toT1, toT, borrow, borrow0, capCell, toTree0, tint]
 ·
  rw [if_neg (by omega)]
  have hs := sm_of hl (by omega)
  refine AWp.weak (Weak.openB 1 0 2 rfl rfl (by omega)) ?_
  simp only [List.set_cons_succ, List.set_cons_zero, List.length_cons, List.length_nil, List.length_append, Nat.reduceAdd, List.cons_append, List.nil_append]
  refine AWp.weak (Weak.head (m := 3) (by omega) ((fun t f => [f, t, f, f, f, t, f, f, f, f, f, f, f, f, t, f, f, f, f, f, f, f, f, f, f, f]) true false) (by first | rfl | simp [mask]) (by first | rfl | simp) (by (repeat' (first | exact valsIn_nil _ | refine valsIn_cons ?_ ?_ | refine cellsIn_cons ?_ ?_ | exact cellsIn_nil _ | exact True.intro | (show _ < _; omega) | (intro c hc; cases hc; done) | (intro c hc; simp only [List.mem_cons, List.not_mem_nil, or_false] at hc; subst hc; exact True.intro) | (intro c hc; simp only [List.mem_cons, List.not_mem_nil, or_false] at hc; rcases hc with rfl | rfl <;> exact True.intro)))) (by (repeat' (first | exact valsIn_nil _ | exact blksIn_nil _ | exact cellsIn_nil _ | refine And.intro ?_ ?_ | refine valsIn_cons ?_ ?_ | refine blksIn_cons ?_ ?_ | refine cellsIn_cons ?_ ?_ | exact True.intro | (show _ < _; omega) | exact cellsIn_map (fun _ => True.intro) | (intro c hc; cases hc; done) | (intro c hc; simp only [List.mem_cons, List.not_mem_nil, or_false] at hc; subst hc; exact True.intro) | (intro c hc; simp only [List.mem_cons, List.not_mem_nil, or_false] at hc; rcases hc with rfl | rfl <;> exact True.intro))))) (AWp.rangeFunc (fun k H => H = [.box [.int .i64 g.n, .slice (eRows g.es) .none], .box [.slice (pRows ((endsL g.es).take k)) (.chain 2)], .chain ((endsL g.es).take k).length 2] ∧ (True)) (fun _ _ => False) 3 rfl (singles1_ok g hs.s hs.es hs.m) (itemsP_ps rfl) (by omega) (by (repeat' (first | exact valsIn_nil _ | refine valsIn_cons ?_ ?_ | refine cellsIn_cons ?_ ?_ | exact cellsIn_nil _ | exact True.intro | (show _ < _; omega) | (intro c hc; cases hc; done) | (intro c hc; simp only [List.mem_cons, List.not_mem_nil, or_false] at hc; subst hc; exact True.intro) | (intro c hc; simp only [List.mem_cons, List.not_mem_nil, or_false] at hc; rcases hc with rfl | rfl <;> exact True.intro)))) (by rintro _ _ ⟨rfl, -⟩; simp) (fun _ _ h => h.elim) ?_ (fun l k ts H hts hI => ?_) (fun H hI => ?_) (fun e H h => h.elim))
  ·exact ⟨rfl, trivial⟩
  ·obtain ⟨rfl, -⟩ := hI
   obtain ⟨p, hp, rfl⟩ := itemsP_inv hts
   simp only [mask, setPs, List.zip_cons_cons, List.zip_nil_right, List.zip_nil_left, List.foldl_cons, List.foldl_nil, List.set_cons_succ, List.set_cons_zero, ofT, ofT1, ofTree, List.map_cons, List.map_nil, ofT, ofT1, toT, toT1, toTree0, tint, tbool, tpair, tG]
   have hk : k < (endsL g.es).length := (List.getElem?_eq_some_iff.1 hp).1
   have hkl : ((endsL g.es).take k).length = k := by rw [List.length_take]; omega
   have := hs.s
   refine zRc (zc @pRows_len (zc @pRows_snoc (zc @hkl trivial))) trivial @pRows_k' ?_
   refine ⟨⟨_, _⟩, Weak.head2 (m := 3) (by decide) ((fun t f => [f, f, f, f, f, f, f, f, f, f, f, f, f, f, f, f, f, f, f, f, f, f, f, f, f, f]) true false) rfl rfl zW, ?_, ?_⟩
   ·simp [take_snoc hp, hkl]
   ·trivial
  ·obtain ⟨rfl, -⟩ := hI
   simp only [mask]
   refine zR trivial trivial trivial ?_
   simp [Rets, aret, Blk.cells, ty, Try.results74, ares, toT1, toT, borrow, borrow0, capCell, toTree0, tint, tpairs, itemsP_len]
abbrev sn (s : BS) (x : Nat) : Nat := s.seen.getD x 0
abbrev lw (s : BS) (x : Nat) : Nat := s.low.getD x 0
def NL (L : List (Nat × Nat)) (e : Nat) : Prop := e < L.length ∧ (edL L e).1 ≠ (edL L e).2
def tch (L : List (Nat × Nat)) (e x : Nat) : Prop := (edL L e).1 = x ∨ (edL L e).2 = x
structure Wit (L : List (Nat × Nat)) (S : Nat → Prop) (v y : Nat) (A : Nat → Bool) (b : Nat) : Prop where
 sup : SupA L A
 bd : ∀ T : Nat → Bool, cross L A T = xor (T v) (T y)
 ab : A b = true
 nl : NL L b
 tb : tch L b y
 ins : ∀ e, A e = true → e ≠ b → ∀ x, tch L e x → S x
 bs : ∀ x, tch L b x → S x ∨ x = y
structure PathA (L : List (Nat × Nat)) (anc : Nat → Prop) (v : Nat) (by' : Int) (y : Nat) (Q : Nat → Bool) : Prop where
 sup : SupA L Q
 bd : ∀ T : Nat → Bool, cross L Q T = xor (T y) (T v)
 ins : ∀ e, Q e = true → ∀ x, tch L e x → anc x ∨ x = v
 last : ∀ e, Q e = true → tch L e v → (e : Int) = by'
theorem crs_ends {L : List (Nat × Nat)} {e u v : Nat} (T : Nat → Bool) (hu : tch L e u) (hv : tch L e v) (hne : u ≠ v) : crs L T e = xor (T u) (T v) := by
 unfold crs tch at *
 rcases hu with hu | hu <;> rcases hv with hv | hv
 ·exact absurd (hu.symm.trans hv) hne
 ·rw [hu, hv]
 ·rw [hu, hv]; cases T u <;> cases T v <;> rfl
 ·exact absurd (hu.symm.trans hv) hne
theorem crs_true {L : List (Nat × Nat)} {T : Nat → Bool} {e : Nat} (h : crs L T e = true) : (∃ x, tch L e x ∧ T x = true) ∧ ∃ x, tch L e x ∧ T x = false := by
 unfold crs at h
 cases h1 : T (edL L e).1 <;> cases h2 : T (edL L e).2 <;> rw [h1, h2] at h
 ·cases h
 ·exact ⟨⟨_, .inr rfl, h2⟩, _, .inl rfl, h1⟩
 ·exact ⟨⟨_, .inl rfl, h1⟩, _, .inr rfl, h2⟩
 ·cases h
theorem tch_two {L : List (Nat × Nat)} {e u v x : Nat} (hu : tch L e u) (hv : tch L e v) (hne : u ≠ v) (hx : tch L e x) : x = u ∨ x = v := by
 unfold tch at *; omega
theorem rel_back {L : List (Nat × Nat)} {anc : Nat → Prop} {v u b : Nat} {by' : Int} {Q : Nat → Bool} (hQ : PathA L anc v by' u Q) (hb : b < L.length) (hu : tch L b u) (hv : tch L b v) (hne : u ≠ v) (hby : (b : Int) ≠ by') (h0 : 0 ≤ by') : Rel L by'.toNat b := by
 have hqb : Q b = false := by
  cases h : Q b with
  | false => rfl
  | true => exact absurd (hQ.last b h hv) hby
 have hev : EvenA L (xorA (oneA b) Q) := fun T => by
  rw [cross_xor, cross_one L hb, hQ.bd, crs_ends T hu hv hne]; cases T u <;> cases T v <;> rfl
 have hsup : SupA L (xorA (oneA b) Q) := (SupA.one hb).xor hQ.sup
 obtain ⟨C, c1, c2, c3⟩ := circ_in hsup hev (e := b) (by simp [xorA, oneA, hqb])
 have := rel_of_cut hsup hev c1 c3 (i := b) (j := by'.toNat) (fun x => decide (x = v)) c2 (by rw [crs_ends _ hu hv hne]; simp [hne]) (fun e he hx => by
  by_cases e1 : e = b
  ·exact .inl e1
  ·right
   have hq : Q e = true := by simpa [xorA, oneA, e1] using he
   obtain ⟨⟨x, hx1, hx2⟩, _⟩ := crs_true hx
   have hxv : x = v := by simpa using hx2
   subst hxv
   have := hQ.last e hq hx1
   omega)
 exact .inr ⟨C, c1, this, c2⟩
theorem rel_child {L : List (Nat × Nat)} {anc : Nat → Prop} {v w y e b : Nat} {by' : Int} {Q A : Nat → Bool} {S : Nat → Prop} [DecidablePred S] (hQ : PathA L anc v by' y Q) (hA : Wit L S w y A b) (he : e < L.length) (hv : tch L e v) (hw : tch L e w) (hSw : S w) (hSv : ¬ S v) (hyv : y ≠ v) (hya : anc y)
  (hanc : ∀ x, anc x → ¬ S x) (h0 : 0 ≤ by') : Rel L by'.toNat e := by
 have hne : v ≠ w := fun h => hSv (h ▸ hSw)
 have hae : A e = false := by
  cases h : A e with
  | false => rfl
  | true =>
   exfalso
   by_cases eb : e = b
   ·subst eb
    rcases hA.bs v hv with h1 | h1
    ·exact hSv h1
    ·exact hyv h1.symm
   ·exact hSv (hA.ins e h eb v hv)
 have hqe : Q e = false := by
  cases h : Q e with
  | false => rfl
  | true =>
   rcases hQ.ins e h w hw with h1 | h1
   ·exact absurd hSw (hanc w h1)
   ·exact absurd h1.symm hne
 have hev : EvenA L (xorA (xorA A (oneA e)) Q) := fun T => by
  rw [cross_xor, cross_xor, cross_one L he, hQ.bd, hA.bd, crs_ends T hv hw hne]
  cases T v <;> cases T w <;> cases T y <;> rfl
 have hsup : SupA L (xorA (xorA A (oneA e)) Q) := (hA.sup.xor (SupA.one he)).xor hQ.sup
 obtain ⟨C, c1, c2, c3⟩ := circ_in hsup hev (e := e) (by simp [xorA, oneA, hae, hqe])
 have cases3 : ∀ f, xorA (xorA A (oneA e)) Q f = true → A f = true ∨ f = e ∨ Q f = true := fun f hf => by
  unfold xorA oneA at hf
  by_cases q1 : A f = true
  ·exact .inl q1
  by_cases q2 : f = e
  ·exact .inr (.inl q2)
  by_cases q3 : Q f = true
  ·exact .inr (.inr q3)
  simp [q1, q2, q3] at hf
 have hSy : ¬ S y := hanc y hya
 obtain ⟨z, hz1, hz2⟩ : ∃ z, tch L b z ∧ S z := by
  obtain ⟨_, hnl⟩ := hA.nl
  by_cases q : (edL L b).1 = y
  ·rcases hA.bs _ (.inr rfl) with h1 | h1
   ·exact ⟨_, .inr rfl, h1⟩
   ·exact absurd (q.trans h1.symm) hnl
  ·rcases hA.bs _ (.inl rfl) with h1 | h1
   ·exact ⟨_, .inl rfl, h1⟩
   ·exact absurd h1 q
 have hzy : z ≠ y := fun h => hSy (h ▸ hz2)
 have cb : C b = true := rel_of_cut hsup hev c1 c3 (i := e) (j := b) (fun x => decide (S x)) c2 (by rw [crs_ends _ hv hw hne]; simp [hSv, hSw]) (fun f hf hx => by
  obtain ⟨⟨x, hx1, hx2⟩, x', hx3, hx4⟩ := crs_true hx
  simp only [decide_eq_true_eq, decide_eq_false_iff_not] at hx2 hx4
  rcases cases3 f hf with h1 | h1 | h1
  ·by_cases eb : f = b
   ·exact .inr eb
   ·exact absurd (hA.ins f h1 eb x' hx3) hx4
  ·exact .inl h1
  ·exfalso
   rcases hQ.ins f h1 x hx1 with h2 | h2
   ·exact hanc x h2 hx2
   ·exact hSv (h2 ▸ hx2))
 have cby := rel_of_cut hsup hev c1 c3 (i := b) (j := by'.toNat) (fun x => decide (S x ∨ x = v)) cb (by rw [crs_ends _ hz1 hA.tb hzy]; simp [hz2, hSy, hyv]) (fun f hf hx => by
  obtain ⟨⟨x, hx1, hx2⟩, x', hx3, hx4⟩ := crs_true hx
  simp only [decide_eq_true_eq, decide_eq_false_iff_not, not_or] at hx2 hx4
  rcases cases3 f hf with h1 | h1 | h1
  ·by_cases eb : f = b
   ·exact .inl eb
   ·exact absurd (hA.ins f h1 eb x' hx3) hx4.1
  ·subst h1
   exfalso
   rcases tch_two hv hw hne hx3 with h2 | h2
   ·exact hx4.2 h2
   ·exact hx4.1 (h2 ▸ hSw)
  ·right
   rcases hx2 with hx2 | hx2
   ·exfalso
    rcases hQ.ins f h1 x hx1 with h2 | h2
    ·exact hanc x h2 hx2
    ·exact hSv (h2 ▸ hx2)
   ·subst hx2
    have := hQ.last f h1 hx1
    omega)
 exact .inr ⟨C, c1, cby, c2⟩
theorem insM_perm (x : Nat) : ∀ l, (insN x l).Perm (x :: l)
 | [] => List.Perm.refl _
 | y :: l => by
  unfold insN; split
  ·exact List.Perm.refl _
  ·exact ((insM_perm x l).cons y).trans (List.Perm.swap ..)
theorem isortM_perm : ∀ l, (isortN l).Perm l
 | [] => List.Perm.refl _
 | x :: l => by unfold isortN; exact (insM_perm x _).trans ((isortM_perm l).cons x)
theorem insM_sorted {x : Nat} : ∀ {l : List Nat}, l.Pairwise (· ≤ ·) → (insN x l).Pairwise (· ≤ ·)
 | [], _ => by simp [insN]
 | y :: l, h => by
  unfold insN
  rw [List.pairwise_cons] at h
  split
  ·rename_i hx
   rw [List.pairwise_cons]
   refine ⟨fun z hz => ?_, List.pairwise_cons.2 h⟩
   rcases List.mem_cons.1 hz with rfl | hz
   ·exact hx
   ·have := h.1 z hz; omega
  ·rename_i hx
   rw [List.pairwise_cons]
   refine ⟨fun z hz => ?_, insM_sorted h.2⟩
   have := (insM_perm x l).mem_iff.1 hz
   rcases List.mem_cons.1 this with rfl | hz
   ·omega
   ·exact h.1 z hz
theorem isortM_sorted : ∀ l, (isortN l).Pairwise (· ≤ ·)
 | [] => List.Pairwise.nil
 | x :: l => by unfold isortN; exact insM_sorted (isortM_sorted l)
theorem isortN_strict {l : List Nat} (h : l.Nodup) : (isortN l).Pairwise (· < ·) := by
 have h1 := isortM_sorted l
 have h2 : (isortN l).Nodup := (isortM_perm l).nodup_iff.2 h
 rw [List.Nodup] at h2
 refine (h1.and h2).imp fun {a b} h => by omega
theorem sn_set {l : List Nat} {i x a : Nat} (hi : i < l.length) : (l.set i a).getD x 0 = if x = i then a else l.getD x 0 := by
 simp only [List.getD_eq_getElem?_getD, List.getElem?_set]
 by_cases h : i = x
 ·subst h; simp [hi]
 ·rw [if_neg h, if_neg (fun e => h e.symm)]
theorem atV_iff {L : List (Nat × Nat)} {v e : Nat} : e ∈ atV L v ↔ NL L e ∧ tch L e v := by
 unfold atV NL tch edL
 simp only [List.mem_filter, List.mem_range, Bool.and_eq_true, Bool.or_eq_true, decide_eq_true_eq]
 constructor
 ·rintro ⟨h1, h2, h3⟩; exact ⟨⟨h1, h2⟩, h3⟩
 ·rintro ⟨⟨h1, h2⟩, h3⟩; exact ⟨h1, h2, h3⟩
theorem atV_nodup (L : List (Nat × Nat)) (v : Nat) : (atV L v).Nodup := List.Pairwise.filter _ List.nodup_range
theorem oth_tch {L : List (Nat × Nat)} {v e : Nat} (hn : NL L e) (hv : tch L e v) : tch L e ((edL L e).1 + (edL L e).2 - v) ∧ (edL L e).1 + (edL L e).2 - v ≠ v := by
 obtain ⟨_, hn⟩ := hn
 unfold tch at *; omega
end Go.Proofs.Ytgklecfiflhjmaa
