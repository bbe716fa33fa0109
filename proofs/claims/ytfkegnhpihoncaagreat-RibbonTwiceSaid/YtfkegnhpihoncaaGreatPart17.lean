/- A part of the proof: contracts of functions of the program, and plain lemmas. -/
import Derived.Test.YtfkegnhpihoncaaGreatPart16
import Derived.Test.YtfkegnhpihoncaaGreatLayerC
import Derived.Test.YtfkegnhpihoncaaGreatPart08
import Derived.Test.YtfkegnhpihoncaaGreatPart05
import Derived.Test.YtfkegnhpihoncaaGreatPart07
import Derived.Test.YtfkegnhpihoncaaGreatPart15
import Derived.Test.YtfkegnhpihoncaaGreatPart13
set_option linter.all false
namespace Go.Proofs.YtfkegnhpihoncaaGreat
open Go.Sp
set_option linter.unusedSimpArgs false
set_option linter.unusedVariables false
set_option maxHeartbeats 4000000
set_option maxRecDepth 100000
theorem cntL_put (es : List E) (a b m i j : Int) : cntL (bagPut es a b m) i j = if i = a ∧ j = b then m else cntL es i j := by
  induction es with
  | nil =>
    simp only [bagPut, cntL]
    by_cases h : i = a ∧ j = b
    · rw [if_pos h, if_pos ⟨h.1.symm, h.2.symm⟩]
    · rw [if_neg h, if_neg fun x => h ⟨x.1.symm, x.2.symm⟩]
  | cons x xs ih =>
    simp only [bagPut]
    by_cases hx : x.a = a ∧ x.b = b
    · rw [if_pos hx]
      simp only [cntL]
      by_cases h : i = a ∧ j = b
      · rw [if_pos h, if_pos ⟨h.1.symm, h.2.symm⟩]
      · rw [if_neg h, if_neg fun x => h ⟨x.1.symm, x.2.symm⟩, if_neg fun y => h ⟨by omega, by omega⟩]
    · rw [if_neg hx]
      simp only [cntL, ih]
      by_cases hy : x.a = i ∧ x.b = j
      · rw [if_pos hy, if_pos hy, if_neg fun h => hx ⟨by omega, by omega⟩]
      · rw [if_neg hy, if_neg hy]
def cG (l : List (Int × Int)) (k a b : Nat) : Int := cntL (bagL (l.take k)) a b
def okP (n : Int) (p : Int × Int) : Prop := (0 ≤ p.1 ∧ p.1 < n) ∧ (0 ≤ p.2 ∧ p.2 < n)
end Go.Proofs.YtfkegnhpihoncaaGreat
set_option linter.all false
namespace Go.Proofs.YtfkegnhpihoncaaGreat
open Go.Sp
set_option linter.unusedSimpArgs false
set_option linter.unusedVariables false
def SameP (l P : List (Int × Int)) : Prop := P.length = l.length ∧ ∀ f : Int × Int → Bool, (∀ p, f (p.2, p.1) = f p) → P.countP f = l.countP f
theorem SameP.refl (l : List (Int × Int)) : SameP l l := ⟨rfl, fun _ _ => rfl⟩
theorem SameP.turn {l P : List (Int × Int)} (h : SameP l P) {i : Nat} {p : Int × Int} (hp : P[i]? = some p) : SameP l (P.set i (p.2, p.1)) := by
  obtain ⟨hi, rfl⟩ := List.getElem?_eq_some_iff.1 hp
  refine ⟨by rw [List.length_set]; exact h.1, fun f hf => ?_⟩
  rw [← h.2 f hf, List.set_eq_take_append_cons_drop, if_pos hi]
  conv => rhs; rw [← List.take_append_drop i P, List.drop_eq_getElem_cons hi]
  simp only [List.countP_append, List.countP_cons, hf]
def isP (a b : Int) (p : Int × Int) : Bool := decide (min p.1 p.2 = a ∧ max p.1 p.2 = b)
theorem cntL_bag (l : List (Int × Int)) (a b : Int) : ∀ k, k ≤ l.length → cntL (bagL (l.take k)) a b = ((l.take k).countP (isP a b) : Int) := by
  intro k
  induction k with
  | zero => intro _; rfl
  | succ k ih =>
    intro hk
    have e0 := List.getElem?_eq_getElem (l := l) (i := k) (by omega)
    rw [take_snoc e0, bagL_snoc, bagStep, cntL_put, List.countP_append, List.countP_cons, List.countP_nil]
    have ih := ih (by omega)
    by_cases h : a = min l[k].1 l[k].2 ∧ b = max l[k].1 l[k].2
    · rw [if_pos h, ← h.1, ← h.2, ih, if_pos (by unfold isP; simp [h.1, h.2])]; omega
    · rw [if_neg h, ih, if_neg (by unfold isP; simp only [decide_eq_true_eq]; omega)]; omega
theorem cnt_ends {es : List E} (hs : es.Pairwise ltE) (hr : ∀ e, e ∈ es → e.a ≤ e.b ∧ 1 ≤ e.m) (a b : Int) : ((endsL es).countP (isP a b) : Int) = cntL es a b := by
  induction es with
  | nil => rfl
  | cons x xs ih =>
    have hp := List.pairwise_cons.1 hs
    have hx := hr x (by simp)
    have ih := ih hp.2 fun e he => hr e (by simp [he])
    have e : endsL (x :: xs) = endsL [x] ++ endsL xs := by rw [← endsL_append]; rfl
    rw [e, endsL_one, List.countP_append, List.countP_replicate]
    simp only [cntL]
    by_cases h : x.a = a ∧ x.b = b
    · have h0 : cntL xs a b = 0 := by
        by_cases h0 : cntL xs a b = 0
        · exact h0
        · have := hp.1 _ (mem_of_cntL h0)
          unfold ltE at this; simp only at this; omega
      rw [if_pos h, if_pos (by unfold isP; simp only [decide_eq_true_eq]; omega)]
      omega
    · rw [if_neg h, if_neg (by unfold isP; simp only [decide_eq_true_eq]; omega)]
      omega
theorem bag_ok {n : Int} {l : List (Int × Int)} (h : ∀ p, p ∈ l → okP n p) : ∀ k, k ≤ l.length → BagOk n k (bagL (l.take k)) := by
  intro k
  induction k with
  | zero => intro _; exact ⟨List.Pairwise.nil, by simp [bagL], by simp [bagL], by simp [bagL]⟩
  | succ k ih =>
    intro hk
    have e0 := List.getElem?_eq_getElem (l := l) (i := k) (by omega)
    have ho := h _ (List.getElem_mem (by omega : k < l.length))
    rw [take_snoc e0, bagL_snoc]
    exact bag_step (ih (by omega)) ho.1 ho.2
instance (n : Int) (p : Int × Int) : Decidable (okP n p) := by unfold okP; infer_instance
end Go.Proofs.YtfkegnhpihoncaaGreat
set_option linter.all false
namespace Go.Proofs.YtfkegnhpihoncaaGreat
open Go.Sp
set_option linter.unusedSimpArgs false
set_option linter.unusedVariables false
set_option maxHeartbeats 4000000
set_option maxRecDepth 100000
def ltP (x : E) (a b : Int) : Prop := x.a < a ∨ (x.a = a ∧ x.b < b)
instance ltP.dec (x : E) (a b : Int) : Decidable (ltP x a b) := by unfold ltP; infer_instance
def loE : List E → Int → Int → Nat
  | [], _, _ => 0
  | x :: xs, a, b => if ltP x a b then loE xs a b + 1 else 0
def foundB (es : List E) (a b : Int) : Bool := match es[loE es a b]? with | some x => decide (x.a = a ∧ x.b = b) | none => false
end Go.Proofs.YtfkegnhpihoncaaGreat
set_option linter.all false
namespace Go.Proofs.YtfkegnhpihoncaaGreat
open Go.Sp
set_option linter.unusedSimpArgs false
set_option linter.unusedVariables false
set_option maxHeartbeats 4000000
set_option maxRecDepth 100000
def valR (es : List E) (v : Int) (n : Nat) : Int := sumR (fun u => if (u : Int) = v then 0 else cntL es (min (u : Int) v) (max (u : Int) v)) n
theorem cnt_bound {g : G} (hc : checkG g = 0) (a b : Int) : 0 ≤ cntL g.es a b ∧ cntL g.es a b ≤ 50 := by
  have hmul := (checkG_zero.1 hc).2.1
  exact ⟨cntL_ge fun e he => by have := hmul e he; unfold okE at this; omega, cntL_le (fun e he => by have := hmul e he; unfold okE at this; omega) (by omega)⟩
theorem valR_val {g : G} {n : Nat} (hc : checkG g = 0) (hn : g.n = n) {v : Int} (hv : 0 ≤ v ∧ v < n) : valR g.es v n = valL v g.es := by
  have h1 := (handshake hc hn).2.2 v
  have h2 : sumR (fun u => cntL g.es (min v u) (max v u)) n = valR g.es v n + sumR (fun u => if (u : Int) = v then cntL g.es v v else 0) n := by
    unfold valR
    rw [← sumR_add]
    refine sumR_congr fun i _ => ?_
    by_cases e : (i : Int) = v
    · rw [if_pos e, if_pos e, e, Int.min_self, Int.max_self]; omega
    · rw [if_neg e, if_neg e, Int.min_comm, Int.max_comm]; omega
  rw [sumR_one hv.1 hv.2] at h2
  omega
theorem ValenceR_ok (g : G) (n : Nat) (hc : checkG g = 0) (hn : g.n = n) (hl : g.es.length < 2 ^ 30) (v : Int) : ACall Tryz.prog 135 [tG g, tint v] (tint (valR g.es v n)) := by
  have hn12 := (checkG_zero.1 hc).1
  have hVb : ∀ u, u ≤ n → 0 ≤ valR g.es v u ∧ valR g.es v u ≤ 600 := fun u hu => by
    have := sumR_bound (f := fun u => if (u : Int) = v then 0 else cntL g.es (min (u : Int) v) (max (u : Int) v)) (n := u) (k := 50) (fun i _ => by have := cnt_bound hc (min (i : Int) v) (max (i : Int) v); (try simp only); split <;> omega)
    unfold valR; omega
  refine ACall.of_body Tryz.func135 rfl (by kernel_rfl) ?_
  simp only [entry, Tryz.ntmps135, tG, tint]
  refine zU ?_
  refine zR trivial trivial trivial ?_
  refine AWp.loopS (α:=Nat) 23 (fun u=>[(1,.c (.int .i64 v)),(2,.c (.ptr 0 0)),(5,.c (.int .i64 (valR g.es v u))),(6,.c (.int .i64 (u : Int)))]) (fun u=>[.box [.int .i64 g.n, .slice (eRows g.es) .none]]) (fun u=>u ≤ n) (fun u=>n - u) (0) (hk:=Weak.headL 1 23 [1, 2, 5, 6] zW) (h0:=?_) (round:=fun u hI=>?_)
  · exact Nat.zero_le _
  · have hun : u ≤ n := hI
    clear hI
    by_cases hlt : u < n
    · have hltI : (u : Int) < g.n := by omega
      have hb := BetweenR_ok g u v (by omega)
      have hcb := cnt_bound hc (min (u : Int) v) (max (u : Int) v)
      have hV := hVb u hun
      have hV1 : valR g.es v (u + 1) = valR g.es v u + (if (u : Int) = v then 0 else cntL g.es (min (u : Int) v) (max (u : Int) v)) := rfl
      generalize valR g.es v u = S at *
      generalize cntL g.es (min (u : Int) v) (max (u : Int) v) = k at *
      repeat' (first|((first|(refine zT ?_;intro K' hK')|(refine zG ?_ ?_<;>(try refine zH ?_)<;>intro hguard<;>(try exact zX)<;>try intro K' hK'))<;>((try simp +contextual only [go_sem, hltI]);(repeat' first|(with_reducible refine hK' _ _ ?_;clear hK' K')|(with_reducible refine zK hb ?_;try simp +contextual only [go_sem, hltI])|exact zY|with_reducible refine And.intro ?_ ?_|(with_reducible intro hpath;try exact zP)|(refine hK' _ _ ?_;clear hK' K')|fail);try refine zS ?_))|(refine zE ?_;refine hK _ _ ?_;clear hK K)|(refine zN ?_;try refine zS ?_)|refine zA ?_|(refine zB ?_;intro K hK)|(refine zC ?_ ?_<;>(try refine zH ?_)<;>intro hcond<;>try exact zX)|fail)
      · rw [if_neg (by assumption)] at hV1
        refine ⟨u + 1,Weak.headF 1 23 [1, 2, 5, 6] (zc @hV1 trivial) zW,?_,?_⟩
        · exact hlt
        · omega
      · rw [if_pos (by assumption), Int.add_zero] at hV1
        refine ⟨u + 1,Weak.headF 1 23 [1, 2, 5, 6] (zc @hV1 trivial) zW,?_,?_⟩
        · exact hlt
        · omega
    · have eu : u = n := by omega
      subst eu
      have hnl : ¬ ((u : Int) < g.n) := by omega
      refine zR (zc @hnl trivial) trivial trivial ?_
      simp [Rets, aret, Blk.cells, ty, Tryz.results135, ares, toT1, toT, borrow, borrow0, capCell, toTree0, tint]
theorem DegreeR_ok (g : G) (n : Nat) (hc : checkG g = 0) (hn : g.n = n) (hl : g.es.length < 2 ^ 30) (v : Int) : ACall Tryz.prog 94 [tG g, tint v] (tint (valR g.es v n + 2 * cntL g.es v v)) := by
  have hn12 := (checkG_zero.1 hc).1
  have hVb : 0 ≤ valR g.es v n ∧ valR g.es v n ≤ 600 := by
    have := sumR_bound (f := fun u => if (u : Int) = v then 0 else cntL g.es (min (u : Int) v) (max (u : Int) v)) (n := n) (k := 50) (fun i _ => by have := cnt_bound hc (min (i : Int) v) (max (i : Int) v); (try simp only); split <;> omega)
    unfold valR; omega
  have hb := BetweenR_ok g v v (by omega)
  rw [Int.min_self, Int.max_self] at hb
  have hcb := cnt_bound hc v v
  have hv := ValenceR_ok g n hc hn hl v
  refine ACall.of_body Tryz.func94 rfl (by kernel_rfl) ?_
  simp only [entry, Tryz.ntmps94, tG, tint]
  refine zU ?_
  generalize valR g.es v n = S at *
  generalize cntL g.es v v = k at *
  refine zR trivial (zc hv (zc hb trivial)) trivial ?_
  simp [Rets, aret, Blk.cells, ty, Tryz.results94, ares, toT1, toT, borrow, borrow0, capCell, toTree0, tint]
def neiP (es : List E) (v : Int) (u : Int) : Bool := !decide (u = v) && decide (0 < cntL es (min u v) (max u v))
def neiR (es : List E) (v : Int) (n : Nat) : List Int := inL (neiP es v) n
end Go.Proofs.YtfkegnhpihoncaaGreat
set_option linter.all false
namespace Go.Proofs.YtfkegnhpihoncaaGreat
open Go.Sp
set_option linter.unusedSimpArgs false
set_option linter.unusedVariables false
set_option maxHeartbeats 4000000
set_option maxRecDepth 100000
theorem atL_app {L : List (Int × Int)} {p : Int × Int} {h : Nat} (hh : h < 2 * L.length) : atL (L ++ [p]) h = atL L h := by
  unfold atL
  rw [List.getD_eq_getElem?_getD, List.getD_eq_getElem?_getD, List.getElem?_append_left (by omega)]
theorem ownL_app {L : List (Int × Int)} {p : Int × Int} {v : Int} : ∀ {k : Nat}, k ≤ 2 * L.length → ownL (L ++ [p]) v k = ownL L v k
  | 0, _ => rfl
  | k + 1, h => by rw [ownL_succ, ownL_succ, atL_app (by omega), ownL_app (by omega)]
theorem own_deg (L : List (Int × Int)) (v : Int) : ((ownL L v (2 * L.length)).length : Int) = degL v L := by
  refine snoc_ind (P := fun L => ((ownL L v (2 * L.length)).length : Int) = degL v L) rfl ?_ L
  intro L p ih
  rw [List.length_append, List.length_singleton, show 2 * (L.length + 1) = 2 * L.length + 1 + 1 by omega, ownL_succ, ownL_succ, ownL_app (Nat.le_refl _), degL_snoc]
  have a1 : atL (L ++ [p]) (2 * L.length) = p.1 := by
    unfold atL
    rw [if_pos (by omega), show 2 * L.length / 2 = L.length by omega, List.getD_eq_getElem?_getD]; simp
  have a2 : atL (L ++ [p]) (2 * L.length + 1) = p.2 := by
    unfold atL
    rw [if_neg (by omega), show (2 * L.length + 1) / 2 = L.length by omega, List.getD_eq_getElem?_getD]; simp
  rw [a1, a2]
  unfold b2i
  by_cases h1 : p.1 = v <;> by_cases h2 : p.2 = v <;> simp [h1, h2] <;> omega
theorem own_degR {g : G} {n : Nat} (hc : checkG g = 0) (hn : g.n = n) {v : Int} (hv : 0 ≤ v ∧ v < n) : valR g.es v n + 2 * cntL g.es v v = (ownL (endsL g.es) v (2 * (endsL g.es).length)).length := by
  obtain ⟨h1, h2, h3⟩ := checkG_zero.1 hc
  rw [own_deg, valR_val hc hn hv]
  exact (degL_val (distinct_of h3) (fun x hx => by have := h2 x hx; unfold okE at this; omega) v).symm
theorem hd_iff {l own : List Int} (h : lstGo own [] l = 0) (hlen : l.length = own.length) (hs : own.Pairwise (· < ·)) : (l ≠ [] ∧ l.getD 0 0 ≠ own.getD 0 0) ↔ ∃ x, x ∈ l ∧ x < l.getD 0 0 := by
  obtain ⟨q1, q2, _⟩ := lstGo_zero h
  have q3 := sup_of q2 q1 hlen
  rw [List.pairwise_iff_getElem] at hs
  have hmin : ∀ x, x ∈ own → own.getD 0 0 ≤ x := fun x hx => by
    obtain ⟨k, hk, rfl⟩ := List.mem_iff_getElem.1 hx
    rw [List.getD_eq_getElem?_getD, List.getElem?_eq_getElem (by omega), Option.getD_some]
    by_cases e : k = 0
    · subst e; exact Int.le_refl _
    · have := hs 0 k (by omega) hk (by omega); omega
  constructor
  · rintro ⟨h1, h2⟩
    have hp : 0 < l.length := List.length_pos_iff.2 h1
    have e1 : l.getD 0 0 = l[0] := by rw [List.getD_eq_getElem?_getD, List.getElem?_eq_getElem hp]; rfl
    have e2 : own.getD 0 0 = own[0]'(by omega) := by rw [List.getD_eq_getElem?_getD, List.getElem?_eq_getElem (by omega)]; rfl
    have h3 := hmin (l.getD 0 0) (q1 _ (by rw [e1]; exact List.getElem_mem _))
    exact ⟨own.getD 0 0, q3 _ (by rw [e2]; exact List.getElem_mem _), by omega⟩
  · intro h
    obtain ⟨x, hx, hlt⟩ := h
    refine ⟨fun e => ?_, fun e => ?_⟩
    · rw [e] at hx; exact absurd hx (List.not_mem_nil)
    · have := hmin x (q1 x hx)
      omega
end Go.Proofs.YtfkegnhpihoncaaGreat
