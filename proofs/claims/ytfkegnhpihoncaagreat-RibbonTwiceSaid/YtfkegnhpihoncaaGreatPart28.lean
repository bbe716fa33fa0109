/- A part of the proof: contracts of functions of the program, and plain lemmas. -/
import Derived.Test.YtfkegnhpihoncaaGreatPart27
import Derived.Test.YtfkegnhpihoncaaGreatPart26
import Derived.Test.YtfkegnhpihoncaaGreatPart23
set_option linter.all false
namespace Go.Proofs.YtfkegnhpihoncaaGreat
open Go.Sp
set_option linter.unusedSimpArgs false
set_option linter.unusedVariables false
set_option maxHeartbeats 4000000
set_option maxRecDepth 100000
theorem few_size {r : R} (hf : fewR r = true) (hc : checkG r.g = 0) : (endsL r.es).length ≤ 9 ∧ r.n ≤ 6 := by
  unfold fewR smallB at hf
  simp only [Bool.and_eq_true, Bool.or_eq_true, decide_eq_true_eq] at hf
  have h1 := hf.1.2
  rcases h1 with h1 | h1
  · exact absurd hc h1
  · exact ⟨by have := h1.2; show (endsL r.g.es).length ≤ 9; omega, h1.1⟩
theorem rib_of {r : R} (h : ROk r) : ribE r = 0 := by
  have hl := h.len
  unfold ribE joinedE
  rw [if_neg (show ¬ (checkG r.g ≠ 0) by rw [h.c]; omega), if_pos h.conn, if_neg (by omega), if_neg (by omega)]
  exact chkGo_ok fun i l hi => by rw [Nat.zero_add]; exact h.l i l hi
theorem Rib.rsm {r : R} (h : Rib r) (h9 : (endsL r.es).length ≤ 9) : RSm (dualG r) := by
  have h1 := h.dual_ok
  refine ⟨?_, ?_, fun l hl => ?_⟩
  · have := (bag_check (n := ((facesR r).length : Nat)) (by have := h.fpos; have := h.fac; omega) h.joins_ok (by rw [joinsR_len]; omega)).2
    rw [joinsR_len] at this
    show (sortE (bagL (joinsR r))).length ≤ 40
    omega
  · have := h1.len
    have hn : (dualG r).n = ((facesR r).length : Nat) := rfl
    have := h.fac
    omega
  · obtain ⟨i, hi, rfl⟩ := List.getElem_of_mem hl
    have hlo := (h1.l i _ (List.getElem?_eq_getElem hi)).len
    have := ownL_len (endsL (dualG r).es) (i : Int) (2 * (endsL (dualG r).es).length)
    rw [h.elen] at *
    omega
structure Tw (r d b : R) (l m : List Int) (E B : Nat) : Prop where
  d1 : dualD r = d
  d2 : dualE r = 0
  d3 : dualN r = l
  b1 : dualD d = b
  b2 : dualE d = 0
  b3 : dualN d = m
  sd : RSm d
  sb : RSm b
  ed : ribE d = 0
  eb : ribE b = 0
  gen : genusR d = genusR r
  bn : b.n = r.n
  ll : l.length = E
  ml : m.length = E
  e9 : E ≤ 9
  eE : (endsL r.es).length = E
  lr : ∀ x, x ∈ l → 0 ≤ x ∧ x < E
  mr : ∀ x, x ∈ m → 0 ≤ x ∧ x < E
  br : ∀ w, w ∈ b.ar → ∀ x, x ∈ w → 0 ≤ x ∧ x < 2 * E
  hB : B < 2 ^ E
  test : sortLL (b.ar.map (renL (behI (invK l (flB E B) l.length) (invK m (List.replicate E false) m.length) (2 * E)))) = sortLL r.ar
theorem num_range {J : List (Int × Int)} {x : Int} (hx : x ∈ numI J) : 0 ≤ x ∧ x < J.length := by
  obtain ⟨e, he, rfl⟩ := List.mem_map.1 hx
  have h1 := num_lt (J := J) (List.mem_range.1 he)
  unfold numN at h1
  omega
theorem rows_range {r : R} (h : ROk r) {w : List Int} (hw : w ∈ r.ar) {x : Int} (hx : x ∈ w) : 0 ≤ x ∧ x < 2 * ((endsL r.es).length : Int) := by
  obtain ⟨i, hi, rfl⟩ := List.getElem_of_mem hw
  have := ownL_mem.1 ((h.l i _ (List.getElem?_eq_getElem hi)).sub x hx)
  omega
theorem point_of {r : R} (h : ROk r) (h0 : (endsL r.es).length = 0) : r = ⟨1, [], [[]]⟩ := by
  have hc := checkG_zero.1 h.c
  have hnil : endsL r.es = [] := List.length_eq_zero_iff.1 h0
  have hes : r.es = [] := by
    cases he : r.es with
    | nil => rfl
    | cons x xs =>
      have hx := hc.2.1 x (by show x ∈ r.es; rw [he]; simp)
      unfold okE at hx
      have : (x.a, x.b) ∈ endsL r.es := List.mem_flatMap.2 ⟨x, by rw [he]; simp, List.mem_replicate.2 ⟨by omega, rfl⟩⟩
      rw [hnil] at this; cases this
  have hk : r.g.n = ((r.n.toNat : Nat) : Int) := by have h12 : 1 ≤ r.n := hc.1.1; show r.n = _; omega
  have hcn := h.conn
  rw [conn_parts h.c hk, decide_eq_true_eq] at hcn
  have hcn2 : ncls r.n.toNat (Conn (endsL r.es)) = 1 := hcn
  rw [hnil, conn_nil_ncls] at hcn2
  have hn : r.n = 1 := by have h12 : 1 ≤ r.n := hc.1.1; omega
  have hlen := h.len
  rw [hn] at hlen
  obtain ⟨l, hl⟩ := List.length_eq_one_iff.1 (show r.ar.length = 1 by omega)
  have hlo := h.l 0 l (by rw [hl]; rfl)
  have hll := hlo.len
  rw [h0] at hll
  have hown := ownL_len (endsL r.es) ((0 : Nat) : Int) (2 * 0)
  have : l = [] := List.length_eq_zero_iff.1 (by omega)
  obtain ⟨n, es, ar⟩ := r
  simp only at hes hn hl
  rw [hes, hn, hl, this]
theorem point_dual (h : ribE ⟨1, [], [[]]⟩ = 0) : dualE ⟨1, [], [[]]⟩ = 0 ∧ dualD ⟨1, [], [[]]⟩ = ⟨1, [], [[]]⟩ ∧ dualN ⟨1, [], [[]]⟩ = [] := by
  have e1 : joinsR ⟨1, [], [[]]⟩ = [] := rfl
  have e2 : facesR ⟨1, [], [[]]⟩ = [[]] := rfl
  have hs : sortE [] = [] := List.Perm.eq_nil (sortE_perm [])
  have e3 : dualM ⟨1, [], [[]]⟩ = (⟨1, []⟩, 0) := by
    unfold dualM makeE
    rw [e1, e2, if_neg (by decide), if_neg (by decide), if_neg (by rintro ⟨p, hp, _⟩; cases hp), if_neg (by rintro ⟨p, hp, _⟩; cases hp)]
    show ((⟨1, sortE []⟩ : G), (0 : Int)) = _
    rw [hs]
  have e4 : dualE ⟨1, [], [[]]⟩ = 0 := by
    unfold dualE
    rw [if_neg (by omega), if_neg (by rw [e2]; decide), e3]
  refine ⟨e4, ?_, ?_⟩
  · unfold dualD
    rw [if_neg (by omega), e3]; rfl
  · unfold dualN
    rw [if_neg (by omega), e1]; rfl
theorem dual_err {r : R} (hr : ribE r = 0) (h9 : (endsL r.es).length ≤ 9) : dualE r = 5 ∨ (dualE r = 0 ∧ (facesR r).length ≤ 12) := by
  by_cases h12 : 12 < (facesR r).length
  · left; unfold dualE; rw [if_neg (by omega), if_pos h12]
  · right
    refine ⟨?_, by omega⟩
    have ho := rok_of hr
    by_cases h0 : (endsL r.es).length = 0
    · have e := point_of ho h0
      rw [e] at hr ⊢
      exact (point_dual hr).1
    · exact Rib.dual_zero ⟨ho, by omega, by omega, by omega⟩ hr
theorem tw_of {r : R} (hf : fewR r = true) (hr : ribE r = 0) (h12 : (facesR r).length ≤ 12) : ∃ d b l m E B, Tw r d b l m E B := by
  have ho := rok_of hr
  have h9 := (few_size hf ho.c).1
  by_cases h0 : (endsL r.es).length = 0
  · have e := point_of ho h0
    rw [e] at hr
    obtain ⟨p1, p2, p3⟩ := point_dual hr
    have hsm : RSm ⟨1, [], [[]]⟩ := ⟨by decide, by decide, fun l hl => by simp at hl; subst hl; decide⟩
    rw [e]
    refine ⟨_, _, _, _, 0, 0, p2, p1, p3, p2, p1, p3, hsm, hsm, hr, hr, rfl, rfl, rfl, rfl, by omega, rfl, fun x hx => by (cases hx), fun x hx => by (cases hx), fun w hw x hx => ?_, by decide, rfl⟩
    simp at hw; subst hw; cases hx
  · have h : Rib r := ⟨ho, by omega, by omega, h12⟩
    obtain ⟨q1, q2⟩ := h.dual_eq hr
    have hd := h.dual
    have er := rib_of h.dual_ok
    obtain ⟨q3, q4⟩ := hd.dual_eq er
    have hbo := hd.dual_ok
    have hn := h.npos
    have hN := h.elen
    obtain ⟨B, b1, b2⟩ := h.bits
    refine ⟨_, _, _, _, (endsL r.es).length, B, q1, h.dual_zero hr, q2, q3, hd.dual_zero er, q4, h.rsm h9, hd.rsm (by rw [hN]; exact h9), er, rib_of hbo, h.dgenus, ?_, by rw [numI_len, joinsR_len], by rw [numI_len, joinsR_len, hN], h9, rfl, fun x hx => ?_, fun x hx => ?_, fun w hw x hx => ?_, b1, ?_⟩
    · show (((facesR (dualG r)).length : Nat) : Int) = r.n
      rw [h.dflen]; omega
    · have := num_range hx; rw [joinsR_len] at this; exact this
    · have := num_range hx; rw [joinsR_len, hN] at this; exact this
    · have := rows_range hbo hw hx; rw [hd.elen, hN] at this; exact this
    · rw [numI_len, numI_len]; exact b2
def flK (E q i : Nat) : List Bool := (List.range E).map fun j => if j < i then decide (q / 2 ^ j % 2 = 1) else false
theorem flK_len (E q i : Nat) : (flK E q i).length = E := by simp [flK]
theorem flK_zero (E q : Nat) : List.replicate E false = flK E q 0 := by
  unfold flK
  rw [eq_comm, List.eq_replicate_iff]
  exact ⟨by simp, fun b hb => by obtain ⟨j, _, rfl⟩ := List.mem_map.1 hb; simp⟩
theorem flK_step {E q i : Nat} (h : i < E) : (flK E q i).set i (decide (q / 2 ^ i % 2 = 1)) = flK E q (i + 1) := by
  apply List.ext_getElem?
  intro j
  by_cases hj : j < E
  · have g : ∀ k, (flK E q k)[j]? = some (if j < k then decide (q / 2 ^ j % 2 = 1) else false) := fun k => by simp [flK, hj]
    rw [g]
    by_cases e : i = j
    · subst e
      rw [List.getElem?_set_self (by rw [flK_len]; exact h), if_pos (by omega)]
    · rw [List.getElem?_set_ne e, g]
      by_cases c : j < i
      · rw [if_pos c, if_pos (by omega)]
      · rw [if_neg c, if_neg (by omega)]
  · rw [List.getElem?_eq_none (by rw [List.length_set, flK_len]; omega), List.getElem?_eq_none (by rw [flK_len]; omega)]
theorem flK_all (E q : Nat) : flK E q E = flB E q := by
  unfold flK flB
  refine List.map_congr_left fun j hj => ?_
  rw [if_pos (List.mem_range.1 hj)]
theorem bit_at (q i : Nat) (hq : q < 2 ^ 20) (hi : i < 64) : ibit .and .i64 ((q : Int).fdiv (2 ^ min i 64)) 1 = ((q / 2 ^ i % 2 : Nat) : Int) := by
  have h1 : (q : Int).fdiv (2 ^ min i 64) = ((q / 2 ^ i : Nat) : Int) := by
    rw [Nat.min_eq_left (by omega), Int.fdiv_eq_ediv_of_nonneg _ (Int.pow_nonneg (by omega))]
    rw [Int.natCast_ediv, Int.natCast_pow]; rfl
  rw [h1]
  have hb : q / 2 ^ i < 2 ^ 20 := Nat.lt_of_le_of_lt (Nat.div_le_self _ _) hq
  generalize q / 2 ^ i = n at *
  unfold ibit
  have e1 : (BitVec.ofInt IntKind.i64.bits (n : Int) &&& BitVec.ofInt IntKind.i64.bits 1).toNat = n % 2 := by
    rw [BitVec.toNat_and]
    have a1 : (BitVec.ofInt IntKind.i64.bits (n : Int)).toNat = n := by
      rw [BitVec.ofInt_natCast, BitVec.toNat_ofNat]
      exact Nat.mod_eq_of_lt (by show n < 2 ^ 64; omega)
    have a2 : (BitVec.ofInt IntKind.i64.bits 1).toNat = 1 := by decide
    rw [a1, a2, Nat.and_one_is_mod]
  simp only [e1]
  have : n % 2 = 0 ∨ n % 2 = 1 := by omega
  rcases this with h | h <;> rw [h] <;> decide
end Go.Proofs.YtfkegnhpihoncaaGreat
