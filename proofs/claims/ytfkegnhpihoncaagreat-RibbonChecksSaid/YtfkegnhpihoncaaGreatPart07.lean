/- A part of the proof: contracts of functions of the program, and plain lemmas. -/
import Derived.Test.YtfkegnhpihoncaaGreatPart06
import Derived.Test.YtfkegnhpihoncaaGreatPart04
import Derived.Test.YtfkegnhpihoncaaGreatPart05
import Derived.Test.YtfkegnhpihoncaaGreatLayerC
set_option linter.all false
namespace Go.Proofs.YtfkegnhpihoncaaGreat
open Go.Sp
set_option linter.unusedSimpArgs false
set_option linter.unusedVariables false
set_option maxHeartbeats 4000000
set_option maxRecDepth 100000
def b2i (p : Prop) [Decidable p] : Int := if p then 1 else 0
def degL (v : Int) : List (Int × Int) → Int
  | [] => 0
  | p :: l => b2i (p.1 = v) + b2i (p.2 = v) + degL v l
theorem degL_append (v : Int) (a b : List (Int × Int)) : degL v (a ++ b) = degL v a + degL v b := by
  induction a with
  | nil => simp [degL]
  | cons x xs ih => simp only [List.cons_append, degL, ih]; omega
theorem degL_snoc (v : Int) (l : List (Int × Int)) (p : Int × Int) : degL v (l ++ [p]) = degL v l + b2i (p.1 = v) + b2i (p.2 = v) := by
  rw [degL_append]; simp only [degL]; omega
end Go.Proofs.YtfkegnhpihoncaaGreat
set_option linter.all false
namespace Go.Proofs.YtfkegnhpihoncaaGreat
open Go.Sp
set_option linter.unusedSimpArgs false
set_option linter.unusedVariables false
set_option maxHeartbeats 4000000
set_option maxRecDepth 100000
def subE (n : Int) : Option Int → List Int → Int
  | _, [] => 0
  | p, v :: l => if ¬ (0 ≤ v ∧ v < n) then 2 else if (∃ u, p = some u ∧ v ≤ u) then 9 else subE n (some v) l
def subG (g : G) (l : List Int) : Int := if checkG g ≠ 0 then checkG g else subE g.n none l
def sepB (set : List Int) (p : Int × Int) : Bool := !decide (decide (p.1 ∈ set) = decide (p.2 ∈ set))
def cutL (set : List Int) (l : List (Int × Int)) : List Int := l.zipIdx.filterMap fun q => if sepB set q.1 then some (q.2 : Int) else none
end Go.Proofs.YtfkegnhpihoncaaGreat
set_option linter.all false
namespace Go.Proofs.YtfkegnhpihoncaaGreat
open Go.Sp
set_option linter.unusedSimpArgs false
set_option linter.unusedVariables false
set_option maxHeartbeats 4000000
set_option maxRecDepth 100000
def neiE (v : Int) (e : E) : List Int := if e.a = e.b then [] else if e.a = v then [e.b] else if e.b = v then [e.a] else []
def neiL (v : Int) (es : List E) : List Int := es.flatMap (neiE v)
end Go.Proofs.YtfkegnhpihoncaaGreat
set_option linter.all false
namespace Go.Proofs.YtfkegnhpihoncaaGreat
open Go.Sp
set_option linter.unusedSimpArgs false
set_option linter.unusedVariables false
set_option maxHeartbeats 4000000
set_option maxRecDepth 100000
def movStep (F : Int → Int) (l : List E) (x : E) : List E := if 0 ≤ F x.a ∧ 0 ≤ F x.b then bagPut l (min (F x.a) (F x.b)) (max (F x.a) (F x.b)) x.m else l
def movL (F : Int → Int) (es : List E) : List E := es.foldl (movStep F) []
structure MovOk (k : Nat) (es : List E) : Prop where
  d : distinctE es
  len : es.length ≤ k
  r : ∀ e, e ∈ es → (0 ≤ e.a ∧ e.a < 12) ∧ (0 ≤ e.b ∧ e.b < 12)
noncomputable def indE (g : G) (l : List Int) : Int := if subG g l ≠ 0 then subG g l else if l = [] then 14 else 0
noncomputable def indG (g : G) (l : List Int) : G := if indE g l ≠ 0 then ⟨0, []⟩ else ⟨l.length, sortE (movL (idxI l) g.es)⟩
end Go.Proofs.YtfkegnhpihoncaaGreat
set_option linter.all false
namespace Go.Proofs.YtfkegnhpihoncaaGreat
open Go.Sp
set_option linter.unusedSimpArgs false
set_option linter.unusedVariables false
set_option maxHeartbeats 4000000
set_option maxRecDepth 100000
instance ltE.dec : DecidableRel ltE := fun x y => by unfold ltE; infer_instance
def house : G := ⟨4, [⟨0, 1, 2⟩, ⟨0, 3, 1⟩, ⟨1, 2, 1⟩, ⟨2, 2, 1⟩, ⟨2, 3, 1⟩]⟩
def part : G := ⟨3, [⟨0, 1, 2⟩, ⟨0, 2, 1⟩]⟩
def mk0 : List (Int × Int) := [(3, 2), (1, 0), (2, 2), (0, 1), (0, 3), (2, 1)]
def lightB (g : G) : Bool := decide (g.es.length ≤ 40) && (decide (checkG g ≠ 0) || decide ((endsL g.es).length ≤ 400))
end Go.Proofs.YtfkegnhpihoncaaGreat
set_option linter.all false
namespace Go.Proofs.YtfkegnhpihoncaaGreat
open Go.Sp
set_option linter.unusedSimpArgs false
set_option linter.unusedVariables false
set_option maxHeartbeats 4000000
set_option maxRecDepth 100000
def rightB (g : G) : Bool := lightB g && decide (checkG g = 0)
structure RightG (g : G) (n : Nat) : Prop where
  c : checkG g = 0
  nn : g.n = n
  n1 : 1 ≤ n
  n12 : n ≤ 12
  l : g.es.length ≤ 40
  s : (endsL g.es).length ≤ 400
end Go.Proofs.YtfkegnhpihoncaaGreat
set_option linter.all false
namespace Go.Proofs.YtfkegnhpihoncaaGreat
open Go.Sp
set_option linter.unusedSimpArgs false
set_option linter.unusedVariables false
set_option maxHeartbeats 4000000
set_option maxRecDepth 100000
theorem BetweenR_ok (g : G) (a b : Int) (hl : g.es.length < 2 ^ 40) : ACall Tryz.prog 136 [tG g, tint a, tint b] (tint (cntL g.es (min a b) (max a b))) := by
  refine ACall.of_body Tryz.func136 rfl (by kernel_rfl) ?_
  simp only [entry, Tryz.ntmps136, tG, tint]
  refine zU ?_
  refine zR trivial trivial trivial ?_
  refine AWp.loopS (α:=Nat) 37 (fun i=>[(1,.c (.int .i64 a)),(2,.c (.int .i64 b)),(3,.c (.ptr 0 0)),(7,.c (.int .i64 (i : Int)))]) (fun i=>[.box [.int .i64 g.n, .slice (eRows g.es) .none]]) (fun i=>i ≤ g.es.length ∧ cntL g.es (min a b) (max a b) = cntL (g.es.drop i) (min a b) (max a b)) (fun i=>g.es.length - i) (0) (hk:=Weak.headL 1 37 [1, 2, 3, 7] zW) (h0:=?_) (round:=fun i hI=>?_)
  · exact ⟨Nat.zero_le _, rfl⟩
  · obtain ⟨hi, hx⟩ := hI
    by_cases hlt : i < g.es.length
    · have e1 := eRows_get (List.getElem?_eq_getElem hlt)
      rw [List.drop_eq_getElem_cons hlt, cntL] at hx
      generalize hy : g.es[i] = x at *
      repeat' (first|((first|(refine zT ?_;intro K' hK')|(refine zG ?_ ?_<;>(try refine zH ?_)<;>intro hguard<;>(try exact zX)<;>try intro K' hK'))<;>((try simp +contextual only [go_sem, e1, eRows_len, Int.toNat_natCast, Int.ofNat_lt]);(repeat' first|(with_reducible refine hK' _ _ ?_;clear hK' K')|exact zY|with_reducible refine And.intro ?_ ?_|(with_reducible intro hpath;try exact zP)|(refine hK' _ _ ?_;clear hK' K')|fail);try refine zS ?_))|(refine zE ?_;refine hK _ _ ?_;clear hK K)|(refine zN ?_;try refine zS ?_)|refine zA ?_|(refine zB ?_;intro K hK)|(refine zC ?_ ?_<;>(try refine zH ?_)<;>intro hcond<;>try exact zX)|fail)
      · rw [if_pos ⟨by omega, by omega⟩] at hx
        simp [Rets, aret, Blk.cells, ty, Tryz.results136, ares, toT1, toT, borrow, borrow0, capCell, toTree0, tint, hx]
      all_goals
        rw [if_neg (by omega)] at hx
        refine ⟨i + 1,Weak.headN 1 37 [1, 2, 3, 7] zW,?_,?_⟩
        · exact ⟨hlt, hx⟩
        · omega
    · have ei : i = g.es.length := by omega
      have h0 : cntL g.es (min a b) (max a b) = 0 := by rw [hx, ei, List.drop_length, cntL]
      refine zR (zc @eRows_len (zc @Int.ofNat_lt trivial)) trivial trivial ?_
      simp [Rets, aret, Blk.cells, ty, Tryz.results136, ares, toT1, toT, borrow, borrow0, capCell, toTree0, tint, h0]
theorem cntL_pos {es : List E} (hm : ∀ e, e ∈ es → 1 ≤ e.m) {a b : Int} : 0 < cntL es a b ↔ ∃ e, e ∈ es ∧ e.a = a ∧ e.b = b := by
  induction es with
  | nil => simp [cntL]
  | cons x xs ih =>
    have ih := ih fun e he => hm e (by simp [he])
    simp only [cntL]
    split
    · rename_i h
      exact ⟨fun _ => ⟨x, by simp, h.1, h.2⟩, fun _ => by have := hm x (by simp); omega⟩
    · rename_i h
      rw [ih]
      constructor
      · rintro ⟨e, he, h1, h2⟩; exact ⟨e, by simp [he], h1, h2⟩
      · rintro ⟨e, he, h1, h2⟩
        rcases List.mem_cons.1 he with rfl | he
        · exact absurd ⟨h1, h2⟩ h
        · exact ⟨e, he, h1, h2⟩
end Go.Proofs.YtfkegnhpihoncaaGreat
set_option linter.all false
namespace Go.Proofs.YtfkegnhpihoncaaGreat
open Go.Sp
set_option linter.unusedSimpArgs false
set_option linter.unusedVariables false
set_option maxHeartbeats 4000000
set_option maxRecDepth 100000
def ltP (x : E) (a b : Int) : Prop := x.a < a ∨ (x.a = a ∧ x.b < b)
instance ltP.dec (x : E) (a b : Int) : Decidable (ltP x a b) := by unfold ltP; infer_instance
def loE : List E → Int → Int → Nat
  | [], _, _ => 0
  | x :: xs, a, b => if ltP x a b then loE xs a b + 1 else 0
def foundB (es : List E) (a b : Int) : Bool := match es[loE es a b]? with | some x => decide (x.a = a ∧ x.b = b) | none => false
end Go.Proofs.YtfkegnhpihoncaaGreat
set_option linter.all false
namespace Go.Proofs.YtfkegnhpihoncaaGreat
open Go.Sp
set_option linter.unusedSimpArgs false
set_option linter.unusedVariables false
def sumR (f : Nat → Int) : Nat → Int
  | 0 => 0
  | n + 1 => sumR f n + f n
theorem sumR_add (f g : Nat → Int) (n : Nat) : sumR (fun i => f i + g i) n = sumR f n + sumR g n := by
  induction n with
  | zero => rfl
  | succ n ih => simp only [sumR, ih]; omega
theorem sumR_zero {f : Nat → Int} {n : Nat} (h : ∀ i, i < n → f i = 0) : sumR f n = 0 := by
  induction n with
  | zero => rfl
  | succ n ih => simp only [sumR, ih fun i hi => h i (by omega), h n (by omega)]; rfl
theorem sumR_congr {f g : Nat → Int} {n : Nat} (h : ∀ i, i < n → f i = g i) : sumR f n = sumR g n := by
  induction n with
  | zero => rfl
  | succ n ih => simp only [sumR, ih fun i hi => h i (by omega), h n (by omega)]
theorem sumR_bound {f : Nat → Int} {n : Nat} {k : Int} (h : ∀ i, i < n → 0 ≤ f i ∧ f i ≤ k) : 0 ≤ sumR f n ∧ sumR f n ≤ k * n := by
  induction n with
  | zero => simp [sumR]
  | succ n ih =>
    have h1 := ih fun i hi => h i (by omega)
    have h2 := h n (by omega)
    have h3 : k * ((n + 1 : Nat) : Int) = k * (n : Int) + k := by rw [Int.natCast_add, Int.mul_add]; simp
    simp only [sumR]; omega
theorem sumR_one {c m : Int} : ∀ {n : Nat}, 0 ≤ c → c < n → sumR (fun i => if (i : Int) = c then m else 0) n = m := by
  intro n
  induction n with
  | zero => intro h1 h2; omega
  | succ n ih =>
    intro h1 h2
    simp only [sumR]
    by_cases e : (n : Int) = c
    · rw [if_pos e, sumR_zero (fun i hi => if_neg (by omega))]; omega
    · rw [if_neg e, ih h1 (by omega)]; omega
theorem distinct_of {es : List E} (h : es.Pairwise ltE) : distinctE es := h.imp fun {x y} h => by unfold ltE at h; unfold neE; omega
theorem cntL_zero {es : List E} {a b : Int} (h : ∀ x, x ∈ es → ¬ (x.a = a ∧ x.b = b)) : cntL es a b = 0 := by
  induction es with
  | nil => rfl
  | cons x xs ih => simp only [cntL]; rw [if_neg (h x (by simp)), ih fun y hy => h y (by simp [hy])]
theorem cntL_cons {x : E} {xs : List E} (h : distinctE (x :: xs)) (a b : Int) : cntL (x :: xs) a b = (if x.a = a ∧ x.b = b then x.m else 0) + cntL xs a b := by
  simp only [cntL]
  by_cases hx : x.a = a ∧ x.b = b
  · rw [if_pos hx, if_pos hx, cntL_zero fun y hy => by
      have := (List.pairwise_cons.1 h).1 y hy
      unfold neE at this; omega]
    omega
  · rw [if_neg hx, if_neg hx]; omega
theorem endsL_cons (x : E) (xs : List E) : endsL (x :: xs) = List.replicate x.m.toNat (x.a, x.b) ++ endsL xs := by simp [endsL]
theorem degL_rep (v : Int) (p : Int × Int) (k : Nat) : degL v (List.replicate k p) = k * (b2i (p.1 = v) + b2i (p.2 = v)) := by
  induction k with
  | zero => simp [degL]
  | succ k ih => rw [List.replicate_succ]; simp only [degL, ih]; rw [Int.natCast_add, Int.add_mul]; omega
theorem degL_val {es : List E} (hd : distinctE es) (hm : ∀ x, x ∈ es → 1 ≤ x.m) (v : Int) : degL v (endsL es) = valL v es + 2 * cntL es v v := by
  induction es with
  | nil => rfl
  | cons x xs ih =>
    have h1 := hm x (by simp)
    have h2 := ih (List.pairwise_cons.1 hd).2 fun y hy => hm y (by simp [hy])
    rw [endsL_cons, degL_append, degL_rep, h2, cntL_cons hd, valL]
    have e : ((x.m.toNat : Nat) : Int) = x.m := by omega
    rw [e]
    simp only [b2i]
    by_cases ha : x.a = v <;> by_cases hb : x.b = v
    · simp [ha, hb]; omega
    · simp [ha, hb]; rw [if_neg (fun h => hb h.symm)]; omega
    · simp [ha, hb]; omega
    · simp [ha, hb]
theorem cnt_sum {n : Nat} {es : List E} (hd : distinctE es) (hr : ∀ x, x ∈ es → 0 ≤ x.a ∧ x.a ≤ x.b ∧ x.b < n) (v : Int) :
    sumR (fun u => cntL es (min v u) (max v u)) n = valL v es + cntL es v v := by
  induction es with
  | nil => simp only [cntL, valL]; rw [sumR_zero fun _ _ => rfl]; rfl
  | cons x xs ih =>
    have h1 := hr x (by simp)
    have h2 := ih (List.pairwise_cons.1 hd).2 fun y hy => hr y (by simp [hy])
    have h3 : sumR (fun u => cntL (x :: xs) (min v u) (max v u)) n = sumR (fun u => if x.a = min v (u : Int) ∧ x.b = max v (u : Int) then x.m else 0) n + sumR (fun u => cntL xs (min v u) (max v u)) n := by
      rw [← sumR_add]; exact sumR_congr fun i _ => cntL_cons hd _ _
    rw [h3, h2, cntL_cons hd, valL]
    by_cases ha : x.a = v
    · have h4 : sumR (fun u => if x.a = min v (u : Int) ∧ x.b = max v (u : Int) then x.m else 0) n = x.m := by
        rw [sumR_congr (g := fun u => if (u : Int) = x.b then x.m else 0), sumR_one (by omega) (by omega)]
        intro i _
        by_cases hi : (i : Int) = x.b
        · rw [if_pos hi, if_pos (by omega)]
        · rw [if_neg hi, if_neg (by omega)]
      rw [h4]
      by_cases hb : x.b = v
      · rw [if_neg (by omega), if_pos (by omega)]; omega
      · rw [if_pos (by omega), if_neg (by omega)]; omega
    · by_cases hb : x.b = v
      · have h4 : sumR (fun u => if x.a = min v (u : Int) ∧ x.b = max v (u : Int) then x.m else 0) n = x.m := by
          rw [sumR_congr (g := fun u => if (u : Int) = x.a then x.m else 0), sumR_one (by omega) (by omega)]
          intro i _
          by_cases hi : (i : Int) = x.a
          · rw [if_pos hi, if_pos (by omega)]
          · rw [if_neg hi, if_neg (by omega)]
        rw [h4, if_pos (by omega), if_neg (by omega)]; omega
      · rw [sumR_zero fun i _ => if_neg (by omega), if_neg (by omega), if_neg (by omega)]; omega
theorem deg_sum {n : Nat} {l : List (Int × Int)} (hr : ∀ p, p ∈ l → (0 ≤ p.1 ∧ p.1 < n) ∧ (0 ≤ p.2 ∧ p.2 < n)) : sumR (fun v => degL v l) n = 2 * l.length := by
  induction l with
  | nil => simp only [degL]; rw [sumR_zero fun _ _ => rfl]; rfl
  | cons p l ih =>
    have h1 := hr p (by simp)
    have h2 := ih fun q hq => hr q (by simp [hq])
    have h3 : sumR (fun v => degL v (p :: l)) n = sumR (fun v => if (v : Int) = p.1 then 1 else 0) n + sumR (fun v => if (v : Int) = p.2 then 1 else 0) n + sumR (fun v => degL v l) n := by
      rw [← sumR_add, ← sumR_add]
      refine sumR_congr fun i _ => ?_
      simp only [degL, b2i]
      congr 1
      congr 1
      · by_cases e : p.1 = (i : Int)
        · rw [if_pos e, if_pos e.symm]
        · rw [if_neg e, if_neg fun h => e h.symm]
      · by_cases e : p.2 = (i : Int)
        · rw [if_pos e, if_pos e.symm]
        · rw [if_neg e, if_neg fun h => e h.symm]
    rw [h3, h2, sumR_one h1.1.1 h1.1.2, sumR_one h1.2.1 h1.2.2, List.length_cons]
    omega
theorem handshake {g : G} {n : Nat} (hc : checkG g = 0) (hn : g.n = n) :
    sumR (fun v => valL v g.es + 2 * cntL g.es v v) n = 2 * (endsL g.es).length ∧
    (∀ v : Int, degL v (endsL g.es) = valL v g.es + 2 * cntL g.es v v) ∧
    (∀ v : Int, sumR (fun u => cntL g.es (min v u) (max v u)) n = valL v g.es + cntL g.es v v) := by
  obtain ⟨h1, h2, h3⟩ := checkG_zero.1 hc
  have hd := distinct_of h3
  have hv : ∀ v : Int, degL v (endsL g.es) = valL v g.es + 2 * cntL g.es v v := degL_val hd fun x hx => by have := h2 x hx; unfold okE at this; omega
  refine ⟨?_, hv, fun v => cnt_sum hd (fun x hx => by have := h2 x hx; unfold okE at this; omega) v⟩
  rw [← deg_sum (n := n) (l := endsL g.es)]
  · exact sumR_congr fun i _ => (hv _).symm
  · intro p hp
    obtain ⟨e, he, hx⟩ := List.mem_flatMap.1 hp
    obtain rfl := List.eq_of_mem_replicate hx
    have := h2 e he
    unfold okE at this
    simp only; omega
end Go.Proofs.YtfkegnhpihoncaaGreat
set_option linter.all false
namespace Go.Proofs.YtfkegnhpihoncaaGreat
open Go.Sp
set_option linter.unusedSimpArgs false
set_option linter.unusedVariables false
def inL (p : Int → Bool) (n : Nat) : List Int := ((List.range n).map fun (i : Nat) => (i : Int)).filter p
def renE (F : Int → Int) (x : E) : E := ⟨F x.a, F x.b, x.m⟩
def bothE (F : Int → Int) (x : E) : Bool := decide (0 ≤ F x.a ∧ 0 ≤ F x.b)
def MonoF (F : Int → Int) : Prop := ∀ u v, 0 ≤ F u → 0 ≤ F v → u < v → F u < F v
def sepN (q : Int → Bool) : List (Int × Int) → Int
  | [] => 0
  | p :: l => (if q p.1 = q p.2 then 0 else 1) + sepN q l
def bothN (q : Int → Bool) : List (Int × Int) → Int
  | [] => 0
  | p :: l => (if q p.1 = true ∧ q p.2 = true then 1 else 0) + bothN q l
end Go.Proofs.YtfkegnhpihoncaaGreat
set_option linter.all false
namespace Go.Proofs.YtfkegnhpihoncaaGreat
open Go.Sp
set_option linter.unusedSimpArgs false
set_option linter.unusedVariables false
set_option maxHeartbeats 4000000
set_option maxRecDepth 100000
def valR (es : List E) (v : Int) (n : Nat) : Int := sumR (fun u => if (u : Int) = v then 0 else cntL es (min (u : Int) v) (max (u : Int) v)) n
theorem cnt_bound {g : G} (hc : checkG g = 0) (a b : Int) : 0 ≤ cntL g.es a b ∧ cntL g.es a b ≤ 50 := by
  have hmul := (checkG_zero.1 hc).2.1
  exact ⟨cntL_ge fun e he => by have := hmul e he; unfold okE at this; omega, cntL_le (fun e he => by have := hmul e he; unfold okE at this; omega) (by omega)⟩
theorem valR_val {g : G} {n : Nat} (hc : checkG g = 0) (hn : g.n = n) {v : Int} (hv : 0 ≤ v ∧ v < n) : valR g.es v n = valL v g.es := by
  have h1 := (handshake hc hn).2.2 v
  have h2 : sumR (fun u => cntL g.es (min v u) (max v u)) n = valR g.es v n + sumR (fun u => if (u : Int) = v then cntL g.es v v else 0) n := by
    unfold valR
    rw [← sumR_add]
    refine sumR_congr fun i _ => ?_
    by_cases e : (i : Int) = v
    · rw [if_pos e, if_pos e, e, Int.min_self, Int.max_self]; omega
    · rw [if_neg e, if_neg e, Int.min_comm, Int.max_comm]; omega
  rw [sumR_one hv.1 hv.2] at h2
  omega
theorem ValenceR_ok (g : G) (n : Nat) (hc : checkG g = 0) (hn : g.n = n) (hl : g.es.length < 2 ^ 30) (v : Int) : ACall Tryz.prog 135 [tG g, tint v] (tint (valR g.es v n)) := by
  have hn12 := (checkG_zero.1 hc).1
  have hVb : ∀ u, u ≤ n → 0 ≤ valR g.es v u ∧ valR g.es v u ≤ 600 := fun u hu => by
    have := sumR_bound (f := fun u => if (u : Int) = v then 0 else cntL g.es (min (u : Int) v) (max (u : Int) v)) (n := u) (k := 50) (fun i _ => by have := cnt_bound hc (min (i : Int) v) (max (i : Int) v); (try simp only); split <;> omega)
    unfold valR; omega
  refine ACall.of_body Tryz.func135 rfl (by kernel_rfl) ?_
  simp only [entry, Tryz.ntmps135, tG, tint]
  refine zU ?_
  refine zR trivial trivial trivial ?_
  refine AWp.loopS (α:=Nat) 23 (fun u=>[(1,.c (.int .i64 v)),(2,.c (.ptr 0 0)),(5,.c (.int .i64 (valR g.es v u))),(6,.c (.int .i64 (u : Int)))]) (fun u=>[.box [.int .i64 g.n, .slice (eRows g.es) .none]]) (fun u=>u ≤ n) (fun u=>n - u) (0) (hk:=Weak.headL 1 23 [1, 2, 5, 6] zW) (h0:=?_) (round:=fun u hI=>?_)
  · exact Nat.zero_le _
  · have hun : u ≤ n := hI
    clear hI
    by_cases hlt : u < n
    · have hltI : (u : Int) < g.n := by omega
      have hb := BetweenR_ok g u v (by omega)
      have hcb := cnt_bound hc (min (u : Int) v) (max (u : Int) v)
      have hV := hVb u hun
      have hV1 : valR g.es v (u + 1) = valR g.es v u + (if (u : Int) = v then 0 else cntL g.es (min (u : Int) v) (max (u : Int) v)) := rfl
      generalize valR g.es v u = S at *
      generalize cntL g.es (min (u : Int) v) (max (u : Int) v) = k at *
      repeat' (first|((first|(refine zT ?_;intro K' hK')|(refine zG ?_ ?_<;>(try refine zH ?_)<;>intro hguard<;>(try exact zX)<;>try intro K' hK'))<;>((try simp +contextual only [go_sem, hltI]);(repeat' first|(with_reducible refine hK' _ _ ?_;clear hK' K')|(with_reducible refine zK hb ?_;try simp +contextual only [go_sem, hltI])|exact zY|with_reducible refine And.intro ?_ ?_|(with_reducible intro hpath;try exact zP)|(refine hK' _ _ ?_;clear hK' K')|fail);try refine zS ?_))|(refine zE ?_;refine hK _ _ ?_;clear hK K)|(refine zN ?_;try refine zS ?_)|refine zA ?_|(refine zB ?_;intro K hK)|(refine zC ?_ ?_<;>(try refine zH ?_)<;>intro hcond<;>try exact zX)|fail)
      · rw [if_neg (by assumption)] at hV1
        refine ⟨u + 1,Weak.headF 1 23 [1, 2, 5, 6] (zc @hV1 trivial) zW,?_,?_⟩
        · exact hlt
        · omega
      · rw [if_pos (by assumption), Int.add_zero] at hV1
        refine ⟨u + 1,Weak.headF 1 23 [1, 2, 5, 6] (zc @hV1 trivial) zW,?_,?_⟩
        · exact hlt
        · omega
    · have eu : u = n := by omega
      subst eu
      have hnl : ¬ ((u : Int) < g.n) := by omega
      refine zR (zc @hnl trivial) trivial trivial ?_
      simp [Rets, aret, Blk.cells, ty, Tryz.results135, ares, toT1, toT, borrow, borrow0, capCell, toTree0, tint]
theorem DegreeR_ok (g : G) (n : Nat) (hc : checkG g = 0) (hn : g.n = n) (hl : g.es.length < 2 ^ 30) (v : Int) : ACall Tryz.prog 94 [tG g, tint v] (tint (valR g.es v n + 2 * cntL g.es v v)) := by
  have hn12 := (checkG_zero.1 hc).1
  have hVb : 0 ≤ valR g.es v n ∧ valR g.es v n ≤ 600 := by
    have := sumR_bound (f := fun u => if (u : Int) = v then 0 else cntL g.es (min (u : Int) v) (max (u : Int) v)) (n := n) (k := 50) (fun i _ => by have := cnt_bound hc (min (i : Int) v) (max (i : Int) v); (try simp only); split <;> omega)
    unfold valR; omega
  have hb := BetweenR_ok g v v (by omega)
  rw [Int.min_self, Int.max_self] at hb
  have hcb := cnt_bound hc v v
  have hv := ValenceR_ok g n hc hn hl v
  refine ACall.of_body Tryz.func94 rfl (by kernel_rfl) ?_
  simp only [entry, Tryz.ntmps94, tG, tint]
  refine zU ?_
  generalize valR g.es v n = S at *
  generalize cntL g.es v v = k at *
  refine zR trivial (zc hv (zc hb trivial)) trivial ?_
  simp [Rets, aret, Blk.cells, ty, Tryz.results94, ares, toT1, toT, borrow, borrow0, capCell, toTree0, tint]
def neiP (es : List E) (v : Int) (u : Int) : Bool := !decide (u = v) && decide (0 < cntL es (min u v) (max u v))
def neiR (es : List E) (v : Int) (n : Nat) : List Int := inL (neiP es v) n
end Go.Proofs.YtfkegnhpihoncaaGreat
set_option linter.all false
namespace Go.Proofs.YtfkegnhpihoncaaGreat
open Go.Sp
set_option linter.unusedSimpArgs false
set_option linter.unusedVariables false
set_option maxHeartbeats 4000000
set_option maxRecDepth 100000
theorem Holds_ok (l : List Int) (v : Int) (hl : l.length < 2 ^ 40) : ACall Tryz.prog 82 [tints l, tint v] (tbool (decide (v ∈ l))) := by
  refine ACall.of_body Tryz.func82 rfl (by kernel_rfl) ?_
  simp only [entry, Tryz.ntmps82, tints, tint]
  refine zU ?_
  refine zR trivial trivial trivial ?_
  refine AWp.loopS (α:=Nat) 18 (fun i=>[(0,.c (.slice (iRows l) .none)),(1,.c (.int .i64 v)),(5,.c (.int .i64 (i : Int)))]) (fun i=>[]) (fun i=>i ≤ l.length ∧ (v ∈ l ↔ v ∈ l.drop i)) (fun i=>l.length - i) (0) (hk:=Weak.headL 0 18 [0, 1, 5] zW) (h0:=?_) (round:=fun i hI=>?_)
  · exact ⟨Nat.zero_le _, Iff.rfl⟩
  · obtain ⟨hi, hx⟩ := hI
    by_cases hlt : i < l.length
    · have e1 := iRows_get (List.getElem?_eq_getElem hlt)
      rw [List.drop_eq_getElem_cons hlt, List.mem_cons] at hx
      generalize l[i] = x at *
      repeat' (first|((first|(refine zT ?_;intro K' hK')|(refine zG ?_ ?_<;>(try refine zH ?_)<;>intro hguard<;>(try exact zX)<;>try intro K' hK'))<;>((try simp +contextual only [go_sem, e1, iRows_len, Int.toNat_natCast, Int.ofNat_lt]);(repeat' first|(with_reducible refine hK' _ _ ?_;clear hK' K')|exact zY|with_reducible refine And.intro ?_ ?_|(with_reducible intro hpath;try exact zP)|(refine hK' _ _ ?_;clear hK' K')|fail);try refine zS ?_))|(refine zE ?_;refine hK _ _ ?_;clear hK K)|(refine zN ?_;try refine zS ?_)|refine zA ?_|(refine zB ?_;intro K hK)|(refine zC ?_ ?_<;>(try refine zH ?_)<;>intro hcond<;>try exact zX)|fail)
      · have e : v ∈ l := hx.2 (.inl (by omega))
        simp [Rets, aret, Blk.cells, ty, Tryz.results82, ares, toT1, toT, borrow, borrow0, capCell, toTree0, tbool, e]
      · refine ⟨i + 1,Weak.headN 0 18 [0, 1, 5] zW,?_,?_⟩
        · refine ⟨hlt, hx.trans ⟨fun h => h.resolve_left (by omega), .inr⟩⟩
        · omega
    · have ei : i = l.length := by omega
      have e : ¬ v ∈ l := fun h => by have := hx.1 h; rw [ei, List.drop_length] at this; cases this
      refine zR (zc @iRows_len (zc @Int.ofNat_lt trivial)) trivial trivial ?_
      simp [Rets, aret, Blk.cells, ty, Tryz.results82, ares, toT1, toT, borrow, borrow0, capCell, toTree0, tbool, e]
end Go.Proofs.YtfkegnhpihoncaaGreat
