/- A part of the proof: contracts of functions of the program, and plain lemmas. -/
import Derived.Test.YtfkegnhpihoncaaGreatPart02
import Derived.Test.YtfkegnhpihoncaaGreatLayerC
set_option linter.all false
namespace Go.Proofs.YtfkegnhpihoncaaGreat
open Go.Sp
set_option linter.unusedSimpArgs false
set_option linter.unusedVariables false
set_option maxHeartbeats 4000000
set_option maxRecDepth 100000
def neiE (v : Int) (e : E) : List Int := if e.a = e.b then [] else if e.a = v then [e.b] else if e.b = v then [e.a] else []
def neiL (v : Int) (es : List E) : List Int := es.flatMap (neiE v)
end Go.Proofs.YtfkegnhpihoncaaGreat
set_option linter.all false
namespace Go.Proofs.YtfkegnhpihoncaaGreat
open Go.Sp
set_option linter.unusedSimpArgs false
set_option linter.unusedVariables false
set_option maxHeartbeats 4000000
set_option maxRecDepth 100000
def movStep (F : Int → Int) (l : List E) (x : E) : List E := if 0 ≤ F x.a ∧ 0 ≤ F x.b then bagPut l (min (F x.a) (F x.b)) (max (F x.a) (F x.b)) x.m else l
def movL (F : Int → Int) (es : List E) : List E := es.foldl (movStep F) []
structure MovOk (k : Nat) (es : List E) : Prop where
  d : distinctE es
  len : es.length ≤ k
  r : ∀ e, e ∈ es → (0 ≤ e.a ∧ e.a < 12) ∧ (0 ≤ e.b ∧ e.b < 12)
noncomputable def indE (g : G) (l : List Int) : Int := if subG g l ≠ 0 then subG g l else if l = [] then 14 else 0
noncomputable def indG (g : G) (l : List Int) : G := if indE g l ≠ 0 then ⟨0, []⟩ else ⟨l.length, sortE (movL (idxI l) g.es)⟩
end Go.Proofs.YtfkegnhpihoncaaGreat
set_option linter.all false
namespace Go.Proofs.YtfkegnhpihoncaaGreat
open Go.Sp
set_option linter.unusedSimpArgs false
set_option linter.unusedVariables false
set_option maxHeartbeats 4000000
set_option maxRecDepth 100000
instance ltE.dec : DecidableRel ltE := fun x y => by unfold ltE; infer_instance
def house : G := ⟨4, [⟨0, 1, 2⟩, ⟨0, 3, 1⟩, ⟨1, 2, 1⟩, ⟨2, 2, 1⟩, ⟨2, 3, 1⟩]⟩
def part : G := ⟨3, [⟨0, 1, 2⟩, ⟨0, 2, 1⟩]⟩
def mk0 : List (Int × Int) := [(3, 2), (1, 0), (2, 2), (0, 1), (0, 3), (2, 1)]
def lightB (g : G) : Bool := decide (g.es.length ≤ 40) && (decide (checkG g ≠ 0) || decide ((endsL g.es).length ≤ 400))
end Go.Proofs.YtfkegnhpihoncaaGreat
set_option linter.all false
namespace Go.Proofs.YtfkegnhpihoncaaGreat
open Go.Sp
set_option linter.unusedSimpArgs false
set_option linter.unusedVariables false
set_option maxHeartbeats 4000000
set_option maxRecDepth 100000
def rightB (g : G) : Bool := lightB g && decide (checkG g = 0)
structure RightG (g : G) (n : Nat) : Prop where
  c : checkG g = 0
  nn : g.n = n
  n1 : 1 ≤ n
  n12 : n ≤ 12
  l : g.es.length ≤ 40
  s : (endsL g.es).length ≤ 400
end Go.Proofs.YtfkegnhpihoncaaGreat
set_option linter.all false
namespace Go.Proofs.YtfkegnhpihoncaaGreat
open Go.Sp
set_option linter.unusedSimpArgs false
set_option linter.unusedVariables false
set_option maxHeartbeats 4000000
set_option maxRecDepth 100000
theorem BetweenR_ok (g : G) (a b : Int) (hl : g.es.length < 2 ^ 40) : ACall Tryz.prog 136 [tG g, tint a, tint b] (tint (cntL g.es (min a b) (max a b))) := by
  refine ACall.of_body Tryz.func136 rfl (by kernel_rfl) ?_
  simp only [entry, Tryz.ntmps136, tG, tint]
  refine zU ?_
  repeat' (first|((first|(refine zT ?_;intro K' hK')|(refine zG ?_ ?_<;>(try refine zH ?_)<;>intro hguard<;>(try exact zX)<;>try intro K' hK'))<;>((try simp +contextual only [go_sem]);(repeat' first|(with_reducible refine hK' _ _ ?_;clear hK' K')|exact zY|with_reducible refine And.intro ?_ ?_|(with_reducible intro hpath;try exact zP)|(refine hK' _ _ ?_;clear hK' K')|fail);try refine zS ?_))|(refine zE ?_;refine hK _ _ ?_;clear hK K)|(refine zN ?_;try refine zS ?_)|refine zA ?_|(refine zB ?_;intro K hK)|(refine zC ?_ ?_<;>(try refine zH ?_)<;>intro hcond<;>try exact zX)|fail)
  refine AWp.loopx (α:=Nat) (fun i=>(⟨.c .any :: .c (.int .i64 a) :: .c (.int .i64 b) :: .c (.ptr 0 0) :: .c .any :: .c .any :: .c .any :: .c (.int .i64 (i : Int)) :: .c .any :: .c .any :: .c .any :: .c .any :: .c .any :: .c .any :: .c .any :: .c .any :: .c .any :: .c .any :: .c .any :: .c .any :: .c .any :: .c .any :: .c .any :: .c .any :: .c .any :: .c .any :: .c .any :: .c .any :: .c .any :: .c .any :: .c .any :: .c .any :: .c .any :: .c .any :: .c .any :: .c .any :: .c .any :: [],[.box [.int .i64 g.n, .slice (eRows g.es) .none]]⟩:St)) (fun i=>i ≤ g.es.length ∧ cntL g.es (min a b) (max a b) = cntL (g.es.drop i) (min a b) (max a b)) (fun i=>g.es.length - i) (0) (Weak.headL 1 37 [1, 2, 3, 7] zW) ?_ (fun i hI=>?_)
  · exact ⟨Nat.zero_le _, rfl⟩
  · obtain ⟨hi, hx⟩ := hI
    by_cases hlt : i < g.es.length
    · have e1 := eRows_get (List.getElem?_eq_getElem hlt)
      rw [List.drop_eq_getElem_cons hlt, cntL] at hx
      generalize hy : g.es[i] = x at *
      repeat' (first|((first|(refine zT ?_;intro K' hK')|(refine zG ?_ ?_<;>(try refine zH ?_)<;>intro hguard<;>(try exact zX)<;>try intro K' hK'))<;>((try simp +contextual only [go_sem, e1, eRows_len, Int.toNat_natCast, Int.ofNat_lt]);(repeat' first|(with_reducible refine hK' _ _ ?_;clear hK' K')|exact zY|with_reducible refine And.intro ?_ ?_|(with_reducible intro hpath;try exact zP)|(refine hK' _ _ ?_;clear hK' K')|fail);try refine zS ?_))|(refine zE ?_;refine hK _ _ ?_;clear hK K)|(refine zN ?_;try refine zS ?_)|refine zA ?_|(refine zB ?_;intro K hK)|(refine zC ?_ ?_<;>(try refine zH ?_)<;>intro hcond<;>try exact zX)|fail)
      · rw [if_pos ⟨by omega, by omega⟩] at hx
        simp [Rets, aret, Blk.cells, ty, Tryz.results136, ares, toT1, toT, borrow, borrow0, capCell, toTree0, tint, hx]
      all_goals
        rw [if_neg (by omega)] at hx
        refine ⟨i + 1,Weak.headN 1 37 [1, 2, 3, 7] zW,?_,?_⟩
        · exact ⟨hlt, hx⟩
        · omega
    · have ei : i = g.es.length := by omega
      have h0 : cntL g.es (min a b) (max a b) = 0 := by rw [hx, ei, List.drop_length, cntL]
      repeat' (first|((first|(refine zT ?_;intro K' hK')|(refine zG ?_ ?_<;>(try refine zH ?_)<;>intro hguard<;>(try exact zX)<;>try intro K' hK'))<;>((try simp +contextual only [go_sem, eRows_len, Int.ofNat_lt]);(repeat' first|(with_reducible refine hK' _ _ ?_;clear hK' K')|exact zY|with_reducible refine And.intro ?_ ?_|(with_reducible intro hpath;try exact zP)|(refine hK' _ _ ?_;clear hK' K')|fail);try refine zS ?_))|(refine zE ?_;refine hK _ _ ?_;clear hK K)|(refine zN ?_;try refine zS ?_)|refine zA ?_|(refine zB ?_;intro K hK)|(refine zC ?_ ?_<;>(try refine zH ?_)<;>intro hcond<;>try exact zX)|fail)
      simp [Rets, aret, Blk.cells, ty, Tryz.results136, ares, toT1, toT, borrow, borrow0, capCell, toTree0, tint, h0]
theorem cntL_pos {es : List E} (hm : ∀ e, e ∈ es → 1 ≤ e.m) {a b : Int} : 0 < cntL es a b ↔ ∃ e, e ∈ es ∧ e.a = a ∧ e.b = b := by
  induction es with
  | nil => simp [cntL]
  | cons x xs ih =>
    have ih := ih fun e he => hm e (by simp [he])
    simp only [cntL]
    split
    · rename_i h
      exact ⟨fun _ => ⟨x, by simp, h.1, h.2⟩, fun _ => by have := hm x (by simp); omega⟩
    · rename_i h
      rw [ih]
      constructor
      · rintro ⟨e, he, h1, h2⟩; exact ⟨e, by simp [he], h1, h2⟩
      · rintro ⟨e, he, h1, h2⟩
        rcases List.mem_cons.1 he with rfl | he
        · exact absurd ⟨h1, h2⟩ h
        · exact ⟨e, he, h1, h2⟩
end Go.Proofs.YtfkegnhpihoncaaGreat
set_option linter.all false
namespace Go.Proofs.YtfkegnhpihoncaaGreat
open Go.Sp
set_option linter.unusedSimpArgs false
set_option linter.unusedVariables false
set_option maxHeartbeats 4000000
set_option maxRecDepth 100000
def ltP (x : E) (a b : Int) : Prop := x.a < a ∨ (x.a = a ∧ x.b < b)
instance ltP.dec (x : E) (a b : Int) : Decidable (ltP x a b) := by unfold ltP; infer_instance
def loE : List E → Int → Int → Nat
  | [], _, _ => 0
  | x :: xs, a, b => if ltP x a b then loE xs a b + 1 else 0
def foundB (es : List E) (a b : Int) : Bool := match es[loE es a b]? with | some x => decide (x.a = a ∧ x.b = b) | none => false
end Go.Proofs.YtfkegnhpihoncaaGreat
set_option linter.all false
namespace Go.Proofs.YtfkegnhpihoncaaGreat
open Go.Sp
set_option linter.unusedSimpArgs false
set_option linter.unusedVariables false
def sumR (f : Nat → Int) : Nat → Int
  | 0 => 0
  | n + 1 => sumR f n + f n
theorem sumR_add (f g : Nat → Int) (n : Nat) : sumR (fun i => f i + g i) n = sumR f n + sumR g n := by
  induction n with
  | zero => rfl
  | succ n ih => simp only [sumR, ih]; omega
theorem sumR_zero {f : Nat → Int} {n : Nat} (h : ∀ i, i < n → f i = 0) : sumR f n = 0 := by
  induction n with
  | zero => rfl
  | succ n ih => simp only [sumR, ih fun i hi => h i (by omega), h n (by omega)]; rfl
theorem sumR_congr {f g : Nat → Int} {n : Nat} (h : ∀ i, i < n → f i = g i) : sumR f n = sumR g n := by
  induction n with
  | zero => rfl
  | succ n ih => simp only [sumR, ih fun i hi => h i (by omega), h n (by omega)]
theorem sumR_bound {f : Nat → Int} {n : Nat} {k : Int} (h : ∀ i, i < n → 0 ≤ f i ∧ f i ≤ k) : 0 ≤ sumR f n ∧ sumR f n ≤ k * n := by
  induction n with
  | zero => simp [sumR]
  | succ n ih =>
    have h1 := ih fun i hi => h i (by omega)
    have h2 := h n (by omega)
    have h3 : k * ((n + 1 : Nat) : Int) = k * (n : Int) + k := by rw [Int.natCast_add, Int.mul_add]; simp
    simp only [sumR]; omega
theorem sumR_one {c m : Int} : ∀ {n : Nat}, 0 ≤ c → c < n → sumR (fun i => if (i : Int) = c then m else 0) n = m := by
  intro n
  induction n with
  | zero => intro h1 h2; omega
  | succ n ih =>
    intro h1 h2
    simp only [sumR]
    by_cases e : (n : Int) = c
    · rw [if_pos e, sumR_zero (fun i hi => if_neg (by omega))]; omega
    · rw [if_neg e, ih h1 (by omega)]; omega
theorem distinct_of {es : List E} (h : es.Pairwise ltE) : distinctE es := h.imp fun {x y} h => by unfold ltE at h; unfold neE; omega
theorem cntL_zero {es : List E} {a b : Int} (h : ∀ x, x ∈ es → ¬ (x.a = a ∧ x.b = b)) : cntL es a b = 0 := by
  induction es with
  | nil => rfl
  | cons x xs ih => simp only [cntL]; rw [if_neg (h x (by simp)), ih fun y hy => h y (by simp [hy])]
theorem cntL_cons {x : E} {xs : List E} (h : distinctE (x :: xs)) (a b : Int) : cntL (x :: xs) a b = (if x.a = a ∧ x.b = b then x.m else 0) + cntL xs a b := by
  simp only [cntL]
  by_cases hx : x.a = a ∧ x.b = b
  · rw [if_pos hx, if_pos hx, cntL_zero fun y hy => by
      have := (List.pairwise_cons.1 h).1 y hy
      unfold neE at this; omega]
    omega
  · rw [if_neg hx, if_neg hx]; omega
theorem endsL_cons (x : E) (xs : List E) : endsL (x :: xs) = List.replicate x.m.toNat (x.a, x.b) ++ endsL xs := by simp [endsL]
theorem degL_rep (v : Int) (p : Int × Int) (k : Nat) : degL v (List.replicate k p) = k * (b2i (p.1 = v) + b2i (p.2 = v)) := by
  induction k with
  | zero => simp [degL]
  | succ k ih => rw [List.replicate_succ]; simp only [degL, ih]; rw [Int.natCast_add, Int.add_mul]; omega
theorem degL_val {es : List E} (hd : distinctE es) (hm : ∀ x, x ∈ es → 1 ≤ x.m) (v : Int) : degL v (endsL es) = valL v es + 2 * cntL es v v := by
  induction es with
  | nil => rfl
  | cons x xs ih =>
    have h1 := hm x (by simp)
    have h2 := ih (List.pairwise_cons.1 hd).2 fun y hy => hm y (by simp [hy])
    rw [endsL_cons, degL_append, degL_rep, h2, cntL_cons hd, valL]
    have e : ((x.m.toNat : Nat) : Int) = x.m := by omega
    rw [e]
    simp only [b2i]
    by_cases ha : x.a = v <;> by_cases hb : x.b = v
    · simp [ha, hb]; omega
    · simp [ha, hb]; rw [if_neg (fun h => hb h.symm)]; omega
    · simp [ha, hb]; omega
    · simp [ha, hb]
theorem cnt_sum {n : Nat} {es : List E} (hd : distinctE es) (hr : ∀ x, x ∈ es → 0 ≤ x.a ∧ x.a ≤ x.b ∧ x.b < n) (v : Int) :
    sumR (fun u => cntL es (min v u) (max v u)) n = valL v es + cntL es v v := by
  induction es with
  | nil => simp only [cntL, valL]; rw [sumR_zero fun _ _ => rfl]; rfl
  | cons x xs ih =>
    have h1 := hr x (by simp)
    have h2 := ih (List.pairwise_cons.1 hd).2 fun y hy => hr y (by simp [hy])
    have h3 : sumR (fun u => cntL (x :: xs) (min v u) (max v u)) n = sumR (fun u => if x.a = min v (u : Int) ∧ x.b = max v (u : Int) then x.m else 0) n + sumR (fun u => cntL xs (min v u) (max v u)) n := by
      rw [← sumR_add]; exact sumR_congr fun i _ => cntL_cons hd _ _
    rw [h3, h2, cntL_cons hd, valL]
    by_cases ha : x.a = v
    · have h4 : sumR (fun u => if x.a = min v (u : Int) ∧ x.b = max v (u : Int) then x.m else 0) n = x.m := by
        rw [sumR_congr (g := fun u => if (u : Int) = x.b then x.m else 0), sumR_one (by omega) (by omega)]
        intro i _
        by_cases hi : (i : Int) = x.b
        · rw [if_pos hi, if_pos (by omega)]
        · rw [if_neg hi, if_neg (by omega)]
      rw [h4]
      by_cases hb : x.b = v
      · rw [if_neg (by omega), if_pos (by omega)]; omega
      · rw [if_pos (by omega), if_neg (by omega)]; omega
    · by_cases hb : x.b = v
      · have h4 : sumR (fun u => if x.a = min v (u : Int) ∧ x.b = max v (u : Int) then x.m else 0) n = x.m := by
          rw [sumR_congr (g := fun u => if (u : Int) = x.a then x.m else 0), sumR_one (by omega) (by omega)]
          intro i _
          by_cases hi : (i : Int) = x.a
          · rw [if_pos hi, if_pos (by omega)]
          · rw [if_neg hi, if_neg (by omega)]
        rw [h4, if_pos (by omega), if_neg (by omega)]; omega
      · rw [sumR_zero fun i _ => if_neg (by omega), if_neg (by omega), if_neg (by omega)]; omega
theorem deg_sum {n : Nat} {l : List (Int × Int)} (hr : ∀ p, p ∈ l → (0 ≤ p.1 ∧ p.1 < n) ∧ (0 ≤ p.2 ∧ p.2 < n)) : sumR (fun v => degL v l) n = 2 * l.length := by
  induction l with
  | nil => simp only [degL]; rw [sumR_zero fun _ _ => rfl]; rfl
  | cons p l ih =>
    have h1 := hr p (by simp)
    have h2 := ih fun q hq => hr q (by simp [hq])
    have h3 : sumR (fun v => degL v (p :: l)) n = sumR (fun v => if (v : Int) = p.1 then 1 else 0) n + sumR (fun v => if (v : Int) = p.2 then 1 else 0) n + sumR (fun v => degL v l) n := by
      rw [← sumR_add, ← sumR_add]
      refine sumR_congr fun i _ => ?_
      simp only [degL, b2i]
      congr 1
      congr 1
      · by_cases e : p.1 = (i : Int)
        · rw [if_pos e, if_pos e.symm]
        · rw [if_neg e, if_neg fun h => e h.symm]
      · by_cases e : p.2 = (i : Int)
        · rw [if_pos e, if_pos e.symm]
        · rw [if_neg e, if_neg fun h => e h.symm]
    rw [h3, h2, sumR_one h1.1.1 h1.1.2, sumR_one h1.2.1 h1.2.2, List.length_cons]
    omega
theorem handshake {g : G} {n : Nat} (hc : checkG g = 0) (hn : g.n = n) :
    sumR (fun v => valL v g.es + 2 * cntL g.es v v) n = 2 * (endsL g.es).length ∧
    (∀ v : Int, degL v (endsL g.es) = valL v g.es + 2 * cntL g.es v v) ∧
    (∀ v : Int, sumR (fun u => cntL g.es (min v u) (max v u)) n = valL v g.es + cntL g.es v v) := by
  obtain ⟨h1, h2, h3⟩ := checkG_zero.1 hc
  have hd := distinct_of h3
  have hv : ∀ v : Int, degL v (endsL g.es) = valL v g.es + 2 * cntL g.es v v := degL_val hd fun x hx => by have := h2 x hx; unfold okE at this; omega
  refine ⟨?_, hv, fun v => cnt_sum hd (fun x hx => by have := h2 x hx; unfold okE at this; omega) v⟩
  rw [← deg_sum (n := n) (l := endsL g.es)]
  · exact sumR_congr fun i _ => (hv _).symm
  · intro p hp
    obtain ⟨e, he, hx⟩ := List.mem_flatMap.1 hp
    obtain rfl := List.eq_of_mem_replicate hx
    have := h2 e he
    unfold okE at this
    simp only; omega
end Go.Proofs.YtfkegnhpihoncaaGreat
set_option linter.all false
namespace Go.Proofs.YtfkegnhpihoncaaGreat
open Go.Sp
set_option linter.unusedSimpArgs false
set_option linter.unusedVariables false
def inL (p : Int → Bool) (n : Nat) : List Int := ((List.range n).map fun (i : Nat) => (i : Int)).filter p
def renE (F : Int → Int) (x : E) : E := ⟨F x.a, F x.b, x.m⟩
def bothE (F : Int → Int) (x : E) : Bool := decide (0 ≤ F x.a ∧ 0 ≤ F x.b)
def MonoF (F : Int → Int) : Prop := ∀ u v, 0 ≤ F u → 0 ≤ F v → u < v → F u < F v
def sepN (q : Int → Bool) : List (Int × Int) → Int
  | [] => 0
  | p :: l => (if q p.1 = q p.2 then 0 else 1) + sepN q l
def bothN (q : Int → Bool) : List (Int × Int) → Int
  | [] => 0
  | p :: l => (if q p.1 = true ∧ q p.2 = true then 1 else 0) + bothN q l
end Go.Proofs.YtfkegnhpihoncaaGreat
set_option linter.all false
namespace Go.Proofs.YtfkegnhpihoncaaGreat
open Go.Sp
set_option linter.unusedSimpArgs false
set_option linter.unusedVariables false
set_option maxHeartbeats 4000000
set_option maxRecDepth 100000
def valR (es : List E) (v : Int) (n : Nat) : Int := sumR (fun u => if (u : Int) = v then 0 else cntL es (min (u : Int) v) (max (u : Int) v)) n
theorem cnt_bound {g : G} (hc : checkG g = 0) (a b : Int) : 0 ≤ cntL g.es a b ∧ cntL g.es a b ≤ 50 := by
  have hmul := (checkG_zero.1 hc).2.1
  exact ⟨cntL_ge fun e he => by have := hmul e he; unfold okE at this; omega, cntL_le (fun e he => by have := hmul e he; unfold okE at this; omega) (by omega)⟩
theorem valR_val {g : G} {n : Nat} (hc : checkG g = 0) (hn : g.n = n) {v : Int} (hv : 0 ≤ v ∧ v < n) : valR g.es v n = valL v g.es := by
  have h1 := (handshake hc hn).2.2 v
  have h2 : sumR (fun u => cntL g.es (min v u) (max v u)) n = valR g.es v n + sumR (fun u => if (u : Int) = v then cntL g.es v v else 0) n := by
    unfold valR
    rw [← sumR_add]
    refine sumR_congr fun i _ => ?_
    by_cases e : (i : Int) = v
    · rw [if_pos e, if_pos e, e, Int.min_self, Int.max_self]; omega
    · rw [if_neg e, if_neg e, Int.min_comm, Int.max_comm]; omega
  rw [sumR_one hv.1 hv.2] at h2
  omega
theorem ValenceR_ok (g : G) (n : Nat) (hc : checkG g = 0) (hn : g.n = n) (hl : g.es.length < 2 ^ 30) (v : Int) : ACall Tryz.prog 135 [tG g, tint v] (tint (valR g.es v n)) := by
  have hn12 := (checkG_zero.1 hc).1
  have hVb : ∀ u, u ≤ n → 0 ≤ valR g.es v u ∧ valR g.es v u ≤ 600 := fun u hu => by
    have := sumR_bound (f := fun u => if (u : Int) = v then 0 else cntL g.es (min (u : Int) v) (max (u : Int) v)) (n := u) (k := 50) (fun i _ => by have := cnt_bound hc (min (i : Int) v) (max (i : Int) v); (try simp only); split <;> omega)
    unfold valR; omega
  refine ACall.of_body Tryz.func135 rfl (by kernel_rfl) ?_
  simp only [entry, Tryz.ntmps135, tG, tint]
  refine zU ?_
  repeat' (first|((first|(refine zT ?_;intro K' hK')|(refine zG ?_ ?_<;>(try refine zH ?_)<;>intro hguard<;>(try exact zX)<;>try intro K' hK'))<;>((try simp +contextual only [go_sem]);(repeat' first|(with_reducible refine hK' _ _ ?_;clear hK' K')|exact zY|with_reducible refine And.intro ?_ ?_|(with_reducible intro hpath;try exact zP)|(refine hK' _ _ ?_;clear hK' K')|fail);try refine zS ?_))|(refine zE ?_;refine hK _ _ ?_;clear hK K)|(refine zN ?_;try refine zS ?_)|refine zA ?_|(refine zB ?_;intro K hK)|(refine zC ?_ ?_<;>(try refine zH ?_)<;>intro hcond<;>try exact zX)|fail)
  refine AWp.loopx (α:=Nat) (fun u=>(⟨.c .any :: .c (.int .i64 v) :: .c (.ptr 0 0) :: .c .any :: .c .any :: .c (.int .i64 (valR g.es v u)) :: .c (.int .i64 (u : Int)) :: .c .any :: .c .any :: .c .any :: .c .any :: .c .any :: .c .any :: .c .any :: .c .any :: .c .any :: .c .any :: .c .any :: .c .any :: .c .any :: .c .any :: .c .any :: .c .any :: [],[.box [.int .i64 g.n, .slice (eRows g.es) .none]]⟩:St)) (fun u=>u ≤ n) (fun u=>n - u) (0) (Weak.headL 1 23 [1, 2, 5, 6] zW) ?_ (fun u hI=>?_)
  · exact Nat.zero_le _
  · have hun : u ≤ n := hI
    clear hI
    by_cases hlt : u < n
    · have hltI : (u : Int) < g.n := by omega
      have hb := BetweenR_ok g u v (by omega)
      have hcb := cnt_bound hc (min (u : Int) v) (max (u : Int) v)
      have hV := hVb u hun
      have hV1 : valR g.es v (u + 1) = valR g.es v u + (if (u : Int) = v then 0 else cntL g.es (min (u : Int) v) (max (u : Int) v)) := rfl
      generalize valR g.es v u = S at *
      generalize cntL g.es (min (u : Int) v) (max (u : Int) v) = k at *
      repeat' (first|((first|(refine zT ?_;intro K' hK')|(refine zG ?_ ?_<;>(try refine zH ?_)<;>intro hguard<;>(try exact zX)<;>try intro K' hK'))<;>((try simp +contextual only [go_sem, hltI]);(repeat' first|(with_reducible refine hK' _ _ ?_;clear hK' K')|(with_reducible refine zK hb ?_;try simp +contextual only [go_sem, hltI])|exact zY|with_reducible refine And.intro ?_ ?_|(with_reducible intro hpath;try exact zP)|(refine hK' _ _ ?_;clear hK' K')|fail);try refine zS ?_))|(refine zE ?_;refine hK _ _ ?_;clear hK K)|(refine zN ?_;try refine zS ?_)|refine zA ?_|(refine zB ?_;intro K hK)|(refine zC ?_ ?_<;>(try refine zH ?_)<;>intro hcond<;>try exact zX)|fail)
      · rw [if_neg (by assumption)] at hV1
        refine ⟨u + 1,Weak.headN 1 23 [1, 2, 5, 6] zW (e1:=by first|rfl|(simp [mask,keepL, hV1];done)|(simp [mask,keepL, hV1]<;>simp_all<;>omega)) (e2:=by first|rfl|(simp [mask,keepL, hV1];done)|(simp [mask,keepL, hV1]<;>simp_all<;>omega)),?_,?_⟩
        · exact hlt
        · omega
      · rw [if_pos (by assumption), Int.add_zero] at hV1
        refine ⟨u + 1,Weak.headN 1 23 [1, 2, 5, 6] zW (e1:=by first|rfl|(simp [mask,keepL, hV1];done)|(simp [mask,keepL, hV1]<;>simp_all<;>omega)) (e2:=by first|rfl|(simp [mask,keepL, hV1];done)|(simp [mask,keepL, hV1]<;>simp_all<;>omega)),?_,?_⟩
        · exact hlt
        · omega
    · have eu : u = n := by omega
      subst eu
      have hnl : ¬ ((u : Int) < g.n) := by omega
      repeat' (first|((first|(refine zT ?_;intro K' hK')|(refine zG ?_ ?_<;>(try refine zH ?_)<;>intro hguard<;>(try exact zX)<;>try intro K' hK'))<;>((try simp +contextual only [go_sem, hnl]);(repeat' first|(with_reducible refine hK' _ _ ?_;clear hK' K')|exact zY|with_reducible refine And.intro ?_ ?_|(with_reducible intro hpath;try exact zP)|(refine hK' _ _ ?_;clear hK' K')|fail);try refine zS ?_))|(refine zE ?_;refine hK _ _ ?_;clear hK K)|(refine zN ?_;try refine zS ?_)|refine zA ?_|(refine zB ?_;intro K hK)|(refine zC ?_ ?_<;>(try refine zH ?_)<;>intro hcond<;>try exact zX)|fail)
      simp [Rets, aret, Blk.cells, ty, Tryz.results135, ares, toT1, toT, borrow, borrow0, capCell, toTree0, tint]
theorem DegreeR_ok (g : G) (n : Nat) (hc : checkG g = 0) (hn : g.n = n) (hl : g.es.length < 2 ^ 30) (v : Int) : ACall Tryz.prog 94 [tG g, tint v] (tint (valR g.es v n + 2 * cntL g.es v v)) := by
  have hn12 := (checkG_zero.1 hc).1
  have hVb : 0 ≤ valR g.es v n ∧ valR g.es v n ≤ 600 := by
    have := sumR_bound (f := fun u => if (u : Int) = v then 0 else cntL g.es (min (u : Int) v) (max (u : Int) v)) (n := n) (k := 50) (fun i _ => by have := cnt_bound hc (min (i : Int) v) (max (i : Int) v); (try simp only); split <;> omega)
    unfold valR; omega
  have hb := BetweenR_ok g v v (by omega)
  rw [Int.min_self, Int.max_self] at hb
  have hcb := cnt_bound hc v v
  have hv := ValenceR_ok g n hc hn hl v
  refine ACall.of_body Tryz.func94 rfl (by kernel_rfl) ?_
  simp only [entry, Tryz.ntmps94, tG, tint]
  refine zU ?_
  generalize valR g.es v n = S at *
  generalize cntL g.es v v = k at *
  repeat' (first|((first|(refine zT ?_;intro K' hK')|(refine zG ?_ ?_<;>(try refine zH ?_)<;>intro hguard<;>(try exact zX)<;>try intro K' hK'))<;>((try simp +contextual only [go_sem]);(repeat' first|(with_reducible refine hK' _ _ ?_;clear hK' K')|((with_reducible first|refine zK hv ?_|refine zK hb ?_);try simp +contextual only [go_sem])|exact zY|with_reducible refine And.intro ?_ ?_|(with_reducible intro hpath;try exact zP)|(refine hK' _ _ ?_;clear hK' K')|fail);try refine zS ?_))|(refine zE ?_;refine hK _ _ ?_;clear hK K)|(refine zN ?_;try refine zS ?_)|refine zA ?_|(refine zB ?_;intro K hK)|(refine zC ?_ ?_<;>(try refine zH ?_)<;>intro hcond<;>try exact zX)|fail)
  simp [Rets, aret, Blk.cells, ty, Tryz.results94, ares, toT1, toT, borrow, borrow0, capCell, toTree0, tint]
def neiP (es : List E) (v : Int) (u : Int) : Bool := !decide (u = v) && decide (0 < cntL es (min u v) (max u v))
def neiR (es : List E) (v : Int) (n : Nat) : List Int := inL (neiP es v) n
end Go.Proofs.YtfkegnhpihoncaaGreat
set_option linter.all false
namespace Go.Proofs.YtfkegnhpihoncaaGreat
open Go.Sp
set_option linter.unusedSimpArgs false
set_option linter.unusedVariables false
set_option maxHeartbeats 4000000
set_option maxRecDepth 100000
theorem Holds_ok (l : List Int) (v : Int) (hl : l.length < 2 ^ 40) : ACall Tryz.prog 82 [tints l, tint v] (tbool (decide (v ∈ l))) := by
  refine ACall.of_body Tryz.func82 rfl (by kernel_rfl) ?_
  simp only [entry, Tryz.ntmps82, tints, tint]
  refine zU ?_
  repeat' (first|((first|(refine zT ?_;intro K' hK')|(refine zG ?_ ?_<;>(try refine zH ?_)<;>intro hguard<;>(try exact zX)<;>try intro K' hK'))<;>((try simp +contextual only [go_sem]);(repeat' first|(with_reducible refine hK' _ _ ?_;clear hK' K')|exact zY|with_reducible refine And.intro ?_ ?_|(with_reducible intro hpath;try exact zP)|(refine hK' _ _ ?_;clear hK' K')|fail);try refine zS ?_))|(refine zE ?_;refine hK _ _ ?_;clear hK K)|(refine zN ?_;try refine zS ?_)|refine zA ?_|(refine zB ?_;intro K hK)|(refine zC ?_ ?_<;>(try refine zH ?_)<;>intro hcond<;>try exact zX)|fail)
  refine AWp.loopx (α:=Nat) (fun i=>(⟨.c (.slice (iRows l) .none) :: .c (.int .i64 v) :: .c .any :: .c .any :: .c .any :: .c (.int .i64 (i : Int)) :: .c .any :: .c .any :: .c .any :: .c .any :: .c .any :: .c .any :: .c .any :: .c .any :: .c .any :: .c .any :: .c .any :: .c .any :: [],[]⟩:St)) (fun i=>i ≤ l.length ∧ (v ∈ l ↔ v ∈ l.drop i)) (fun i=>l.length - i) (0) (Weak.headL 0 18 [0, 1, 5] zW) ?_ (fun i hI=>?_)
  · exact ⟨Nat.zero_le _, Iff.rfl⟩
  · obtain ⟨hi, hx⟩ := hI
    by_cases hlt : i < l.length
    · have e1 := iRows_get (List.getElem?_eq_getElem hlt)
      rw [List.drop_eq_getElem_cons hlt, List.mem_cons] at hx
      generalize l[i] = x at *
      repeat' (first|((first|(refine zT ?_;intro K' hK')|(refine zG ?_ ?_<;>(try refine zH ?_)<;>intro hguard<;>(try exact zX)<;>try intro K' hK'))<;>((try simp +contextual only [go_sem, e1, iRows_len, Int.toNat_natCast, Int.ofNat_lt]);(repeat' first|(with_reducible refine hK' _ _ ?_;clear hK' K')|exact zY|with_reducible refine And.intro ?_ ?_|(with_reducible intro hpath;try exact zP)|(refine hK' _ _ ?_;clear hK' K')|fail);try refine zS ?_))|(refine zE ?_;refine hK _ _ ?_;clear hK K)|(refine zN ?_;try refine zS ?_)|refine zA ?_|(refine zB ?_;intro K hK)|(refine zC ?_ ?_<;>(try refine zH ?_)<;>intro hcond<;>try exact zX)|fail)
      · have e : v ∈ l := hx.2 (.inl (by omega))
        simp [Rets, aret, Blk.cells, ty, Tryz.results82, ares, toT1, toT, borrow, borrow0, capCell, toTree0, tbool, e]
      · refine ⟨i + 1,Weak.headN 0 18 [0, 1, 5] zW,?_,?_⟩
        · refine ⟨hlt, hx.trans ⟨fun h => h.resolve_left (by omega), .inr⟩⟩
        · omega
    · have ei : i = l.length := by omega
      have e : ¬ v ∈ l := fun h => by have := hx.1 h; rw [ei, List.drop_length] at this; cases this
      repeat' (first|((first|(refine zT ?_;intro K' hK')|(refine zG ?_ ?_<;>(try refine zH ?_)<;>intro hguard<;>(try exact zX)<;>try intro K' hK'))<;>((try simp +contextual only [go_sem, iRows_len, Int.ofNat_lt]);(repeat' first|(with_reducible refine hK' _ _ ?_;clear hK' K')|exact zY|with_reducible refine And.intro ?_ ?_|(with_reducible intro hpath;try exact zP)|(refine hK' _ _ ?_;clear hK' K')|fail);try refine zS ?_))|(refine zE ?_;refine hK _ _ ?_;clear hK K)|(refine zN ?_;try refine zS ?_)|refine zA ?_|(refine zB ?_;intro K hK)|(refine zC ?_ ?_<;>(try refine zH ?_)<;>intro hcond<;>try exact zX)|fail)
      simp [Rets, aret, Blk.cells, ty, Tryz.results82, ares, toT1, toT, borrow, borrow0, capCell, toTree0, tbool, e]
end Go.Proofs.YtfkegnhpihoncaaGreat
set_option linter.all false
namespace Go.Proofs.YtfkegnhpihoncaaGreat
open Go.Sp
set_option linter.unusedSimpArgs false
set_option linter.unusedVariables false
set_option maxHeartbeats 4000000
set_option maxRecDepth 100000
def bC (R : List Bool) : List ACell := R.map ACell.bool
def bRows (R : List Bool) : List (List Tree) := R.map fun b => [Tree.bool b]
def tbools (R : List Bool) : TVal := .t (.slice (bRows R))
attribute [go_sem] tbools
theorem bC_len (R : List Bool) : (bC R).length = R.length := by simp [bC]
theorem bRows_len (R : List Bool) : (bRows R).length = R.length := by simp [bRows]
theorem bC_get {R : List Bool} {i : Nat} {b : Bool} (h : R[i]? = some b) : (bC R)[i]? = some (.bool b) := by simp [bC, h]
theorem bRows_get {R : List Bool} {i : Nat} {b : Bool} (h : R[i]? = some b) : (bRows R)[i]? = some [.bool b] := by simp [bRows, h]
theorem bC_set (R : List Bool) (i : Nat) (b : Bool) : (bC R).set i (.bool b) = bC (R.set i b) := by simp [bC, List.map_set]
theorem bC_drop {R : List Bool} {i : Nat} {b : Bool} (h : R[i]? = some b) : (bC R).drop i = .bool b :: (bC R).drop (i + 1) := by
  have hl := (List.getElem?_eq_some_iff.1 h)
  rw [List.drop_eq_getElem_cons (by rw [bC_len]; exact hl.1)]
  obtain ⟨h1, rfl⟩ := hl
  simp [bC]
theorem made_bools (n : Nat) : madeA [ACell.bool false] n = bC (List.replicate n false) := by
  simp [madeA, bC]
def adjB (es : List E) (a b : Nat) : Bool := decide (0 < cntL es (min (a : Int) b) (max (a : Int) b))
def rStep (es : List E) (a : Nat) (R : List Bool) (b : Nat) : List Bool := if R.getD a false && adjB es a b then R.set b true else R
def rRow (es : List E) (n a : Nat) (R : List Bool) : List Bool := (List.range n).foldl (rStep es a) R
def rRound (es : List E) (n : Nat) (R : List Bool) : List Bool := (List.range n).foldl (fun R a => rRow es n a R) R
def reachN (es : List E) (n v k : Nat) : List Bool := (List.range k).foldl (fun R _ => rRound es n R) ((List.replicate n false).set v true)
def reachL (es : List E) (n v : Nat) : List Bool := reachN es n v n
theorem foldl_range_succ {α : Type} (f : α → Nat → α) (z : α) (k : Nat) : (List.range (k + 1)).foldl f z = f ((List.range k).foldl f z) k := by rw [List.range_succ, List.foldl_append]; rfl
theorem foldl_len {f : List Bool → Nat → List Bool} (h : ∀ R i, (f R i).length = R.length) (l : List Nat) (R : List Bool) : (l.foldl f R).length = R.length := by
  induction l generalizing R with
  | nil => rfl
  | cons x xs ih => rw [List.foldl_cons, ih, h]
theorem rStep_len (es : List E) (a : Nat) (R : List Bool) (b : Nat) : (rStep es a R b).length = R.length := by unfold rStep; split <;> simp
theorem rRow_len (es : List E) (n a : Nat) (R : List Bool) : (rRow es n a R).length = R.length := foldl_len (rStep_len es a) _ _
theorem rRound_len (es : List E) (n : Nat) (R : List Bool) : (rRound es n R).length = R.length := foldl_len (fun R a => rRow_len es n a R) _ _
theorem reachN_len (es : List E) (n v k : Nat) : (reachN es n v k).length = n := by
  unfold reachN; rw [foldl_len (fun R _ => rRound_len es n R)]; simp
theorem rStep_run {es : List E} {a : Nat} {R : List Bool} {b : Nat} {x : Bool} (h : R[a]? = some x) : rStep es a R b = if x = true ∧ 0 < cntL es (min (a : Int) b) (max (a : Int) b) then R.set b true else R := by
  unfold rStep adjB
  rw [List.getD_eq_getElem?_getD, h, Option.getD_some]
  cases x <;> simp
theorem bool_get {R : List Bool} {n a : Nat} (h : R.length = n) (ha : a < n) : ∃ x, R[a]? = some x := ⟨_, List.getElem?_eq_getElem (by omega)⟩
theorem bC_ref {R : List Bool} {n : Nat} (h : R.length = n) {H : List Blk} {id : Nat} (hid : H[id]? = some (.box (bC R))) : borrow H (.ref id 1 0 n n) = some (.slice (bRows R)) := by
  have e : borrow H (.ref id 1 0 n n) = borrow0 H (.ref id 1 0 n n) := rfl
  have hf := refRows_flat (rows := bRows R) (k := 1) (cap := n) (fun r hr => by obtain ⟨b, _, rfl⟩ := List.mem_map.1 hr; rfl) (fun r hr => by obtain ⟨b, _, rfl⟩ := List.mem_map.1 hr; rfl) (by rw [bRows_len]; omega)
  have hfl : flatRows (bRows R) = bC R := by
    simp only [flatRows, bRows, bC]
    clear e hf hid h
    induction R with
    | nil => rfl
    | cons x xs ih => simp only [List.map_cons, List.flatten_cons, List.map_append, ih]; rfl
  rw [hfl, bRows_len, h] at hf
  unfold refRows at hf
  rw [e]
  simp only [borrow0, hid, Blk.cells, Option.bind_some]
  split at hf
  · rename_i hc
    rw [if_pos hc]
    cases hm : (((bC R).drop 0).take (n * 1)).mapM toTree0 with
    | none => rw [hm] at hf; simp at hf
    | some ts =>
      rw [hm] at hf
      simp only [Option.bind_some] at hf
      split at hf
      · simp at hf; simp [hf]
      · simp at hf
  · simp at hf
theorem Reached_ok (g : G) (n v : Nat) (hc : checkG g = 0) (hn : g.n = n) (hv : v < n) (hl : g.es.length < 2 ^ 30) : ACall Tryz.prog 96 [tG g, tint v] (tbools (reachL g.es n v)) := by
  have hn12 := (checkG_zero.1 hc).1
  have hbe : ∀ a b : Nat, ACall Tryz.prog 136 [tG g, tint a, tint b] (tint (cntL g.es (min (a : Int) b) (max (a : Int) b))) := fun a b => BetweenR_ok g a b (by omega)
  obtain ⟨gn, es⟩ := g
  simp only at hn hl hn12 hbe ⊢
  subst hn
  refine ACall.of_body Tryz.func96 rfl (by kernel_rfl) ?_
  simp only [entry, Tryz.ntmps96, tG, tint]
  refine zU ?_
  repeat' (first|((first|(refine zT ?_;intro K' hK')|(refine zG ?_ ?_<;>(try refine zH ?_)<;>intro hguard<;>(try exact zX)<;>try intro K' hK'))<;>((try simp +contextual only [go_sem, made_bools, Int.toNat_natCast, Nat.mul_one, bC_set, bC_len, List.length_replicate]);(repeat' first|(with_reducible refine hK' _ _ ?_;clear hK' K')|exact zY|with_reducible refine And.intro ?_ ?_|(with_reducible intro hpath;try exact zP)|(refine hK' _ _ ?_;clear hK' K')|fail);try refine zS ?_))|(refine zE ?_;refine hK _ _ ?_;clear hK K)|(refine zN ?_;try refine zS ?_)|refine zA ?_|(refine zB ?_;intro K hK)|(refine zC ?_ ?_<;>(try refine zH ?_)<;>intro hcond<;>try exact zX)|fail)
  refine AWp.loopx (α:=Nat) (fun k=>(⟨.c .any :: .c (.int .i64 (v : Int)) :: .c (.ptr 0 0) :: .c .any :: .c .any :: .c (.ref 1 1 0 n n) :: .c (.int .i64 (k : Int)) :: .c .any :: .c .any :: .c .any :: .c .any :: .c .any :: .c .any :: .c .any :: .c .any :: .c .any :: .c .any :: .c .any :: .c .any :: .c .any :: .c .any :: .c .any :: .c .any :: .c .any :: .c .any :: .c .any :: .c .any :: .c .any :: .c .any :: .c .any :: .c .any :: .c .any :: .c .any :: .c .any :: .c .any :: .c .any :: .c .any :: .c .any :: .c .any :: .c .any :: .c .any :: .c .any :: .c .any :: .c .any :: .c .any :: .c .any :: .c .any :: .c .any :: [],[.box [.int .i64 (n : Int), .slice (eRows es) .none], .box (bC (reachN es n v k))]⟩:St)) (fun k=>k ≤ n) (fun k=>n - k) (0) (Weak.headL 2 48 [1, 2, 5, 6] zW) ?_ (fun k hI=>?_)
  · exact Nat.zero_le _
  · have hk : k ≤ n := hI
    clear hI
    by_cases hlt : k < n
    · have hltI : (k : Int) < n := by omega
      have hN : reachN es n v (k + 1) = rRound es n (reachN es n v k) := foldl_range_succ _ _ _
      have hlen := reachN_len es n v k
      generalize reachN es n v k = R at *
      repeat' (first|((first|(refine zT ?_;intro K' hK')|(refine zG ?_ ?_<;>(try refine zH ?_)<;>intro hguard<;>(try exact zX)<;>try intro K' hK'))<;>((try simp +contextual only [go_sem, hltI]);(repeat' first|(with_reducible refine hK' _ _ ?_;clear hK' K')|exact zY|with_reducible refine And.intro ?_ ?_|(with_reducible intro hpath;try exact zP)|(refine hK' _ _ ?_;clear hK' K')|fail);try refine zS ?_))|(refine zE ?_;refine hK _ _ ?_;clear hK K)|(refine zN ?_;try refine zS ?_)|refine zA ?_|(refine zB ?_;intro K hK)|(refine zC ?_ ?_<;>(try refine zH ?_)<;>intro hcond<;>try exact zX)|fail)
      refine AWp.loopx (α:=Nat) (fun a=>(⟨.c .any :: .c (.int .i64 (v : Int)) :: .c (.ptr 0 0) :: .c .any :: .c .any :: .c (.ref 1 1 0 n n) :: .c (.int .i64 (k : Int)) :: .c (.int .i64 (a : Int)) :: .c .any :: .c .any :: .c .any :: .c .any :: .c .any :: .c .any :: .c .any :: .c .any :: .c .any :: .c .any :: .c .any :: .c .any :: .c .any :: .c .any :: .c .any :: .c .any :: .c .any :: .c .any :: .c .any :: .c .any :: .c .any :: .c .any :: .c .any :: .c .any :: .c .any :: .c .any :: .c .any :: .c .any :: .c .any :: .c .any :: .c .any :: .c .any :: .c .any :: .c .any :: .c .any :: .c .any :: .c .any :: .c .any :: .c .any :: .c .any :: [],[.box [.int .i64 (n : Int), .slice (eRows es) .none], .box (bC ((List.range a).foldl (fun R a => rRow es n a R) R))]⟩:St)) (fun a=>a ≤ n) (fun a=>n - a) (0) (Weak.headL 2 48 [1, 2, 5, 6, 7] zW) ?_ (fun a hI=>?_)
      · exact Nat.zero_le _
      · have ha : a ≤ n := hI
        clear hI
        by_cases hlta : a < n
        · have hltaI : (a : Int) < n := by omega
          have hA : (List.range (a + 1)).foldl (fun R a => rRow es n a R) R = rRow es n a ((List.range a).foldl (fun R a => rRow es n a R) R) := foldl_range_succ _ _ _
          have hlen2 : ((List.range a).foldl (fun R a => rRow es n a R) R).length = n := by rw [foldl_len (fun R a => rRow_len es n a R), hlen]
          generalize (List.range a).foldl (fun R a => rRow es n a R) R = S at *
          repeat' (first|((first|(refine zT ?_;intro K' hK')|(refine zG ?_ ?_<;>(try refine zH ?_)<;>intro hguard<;>(try exact zX)<;>try intro K' hK'))<;>((try simp +contextual only [go_sem, hltaI]);(repeat' first|(with_reducible refine hK' _ _ ?_;clear hK' K')|exact zY|with_reducible refine And.intro ?_ ?_|(with_reducible intro hpath;try exact zP)|(refine hK' _ _ ?_;clear hK' K')|fail);try refine zS ?_))|(refine zE ?_;refine hK _ _ ?_;clear hK K)|(refine zN ?_;try refine zS ?_)|refine zA ?_|(refine zB ?_;intro K hK)|(refine zC ?_ ?_<;>(try refine zH ?_)<;>intro hcond<;>try exact zX)|fail)
          refine AWp.loopx (α:=Nat) (fun b=>(⟨.c .any :: .c (.int .i64 (v : Int)) :: .c (.ptr 0 0) :: .c .any :: .c .any :: .c (.ref 1 1 0 n n) :: .c (.int .i64 (k : Int)) :: .c (.int .i64 (a : Int)) :: .c (.int .i64 (b : Int)) :: .c .any :: .c .any :: .c .any :: .c .any :: .c .any :: .c .any :: .c .any :: .c .any :: .c .any :: .c .any :: .c .any :: .c .any :: .c .any :: .c .any :: .c .any :: .c .any :: .c .any :: .c .any :: .c .any :: .c .any :: .c .any :: .c .any :: .c .any :: .c .any :: .c .any :: .c .any :: .c .any :: .c .any :: .c .any :: .c .any :: .c .any :: .c .any :: .c .any :: .c .any :: .c .any :: .c .any :: .c .any :: .c .any :: .c .any :: [],[.box [.int .i64 (n : Int), .slice (eRows es) .none], .box (bC ((List.range b).foldl (rStep es a) S))]⟩:St)) (fun b=>b ≤ n) (fun b=>n - b) (0) (Weak.headL 2 48 [1, 2, 5, 6, 7, 8] zW) ?_ (fun b hI=>?_)
          · exact Nat.zero_le _
          · have hb : b ≤ n := hI
            clear hI
            by_cases hltb : b < n
            · have hltbI : (b : Int) < n := by omega
              have hB : (List.range (b + 1)).foldl (rStep es a) S = rStep es a ((List.range b).foldl (rStep es a) S) b := foldl_range_succ _ _ _
              have hlen3 : ((List.range b).foldl (rStep es a) S).length = n := by rw [foldl_len (rStep_len es a), hlen2]
              generalize (List.range b).foldl (rStep es a) S = T at *
              obtain ⟨x, hx⟩ := bool_get hlen3 hlta
              have hd := bC_drop hx
              have hst := rStep_run (es := es) (b := b) hx
              have hbb := hbe a b
              have hg := bC_get hx
              generalize cntL es (min (a : Int) b) (max (a : Int) b) = c at *
              cases x with
              | true =>
                by_cases hcp : 0 < c
                · rw [if_pos ⟨rfl, hcp⟩] at hst
                  rw [hst] at hB
                  repeat' (first|((first|(refine zT ?_;intro K' hK')|(refine zG ?_ ?_<;>(try refine zH ?_)<;>intro hguard<;>(try exact zX)<;>try intro K' hK'))<;>((try simp +contextual only [go_sem, hltbI, Int.toNat_natCast, Nat.mul_one, hd, hg, hcp, bC_len, hlen3, bC_set]);(repeat' first|(with_reducible refine hK' _ _ ?_;clear hK' K')|(with_reducible refine zK hbb ?_;try simp +contextual only [go_sem, hltbI, Int.toNat_natCast, Nat.mul_one, hd, hg, hcp, bC_len, hlen3, bC_set])|exact zY|with_reducible refine And.intro ?_ ?_|(with_reducible intro hpath;try exact zP)|(refine hK' _ _ ?_;clear hK' K')|fail);try refine zS ?_))|(refine zE ?_;refine hK _ _ ?_;clear hK K)|(refine zN ?_;try refine zS ?_)|refine zA ?_|(refine zB ?_;intro K hK)|(refine zC ?_ ?_<;>(try refine zH ?_)<;>intro hcond<;>try exact zX)|fail)
                  refine ⟨b + 1,Weak.headN 2 48 [1, 2, 5, 6, 7, 8] zW (e1:=by first|rfl|(simp [mask,keepL, hB];done)|(simp [mask,keepL, hB]<;>simp_all<;>omega)) (e2:=by first|rfl|(simp [mask,keepL, hB];done)|(simp [mask,keepL, hB]<;>simp_all<;>omega)),?_,?_⟩
                  · exact hltb
                  · omega
                · rw [if_neg (by simp [hcp])] at hst
                  rw [hst] at hB
                  repeat' (first|((first|(refine zT ?_;intro K' hK')|(refine zG ?_ ?_<;>(try refine zH ?_)<;>intro hguard<;>(try exact zX)<;>try intro K' hK'))<;>((try simp +contextual only [go_sem, hltbI, Int.toNat_natCast, Nat.mul_one, hd, hg, hcp, bC_len, hlen3]);(repeat' first|(with_reducible refine hK' _ _ ?_;clear hK' K')|(with_reducible refine zK hbb ?_;try simp +contextual only [go_sem, hltbI, Int.toNat_natCast, Nat.mul_one, hd, hg, hcp, bC_len, hlen3])|exact zY|with_reducible refine And.intro ?_ ?_|(with_reducible intro hpath;try exact zP)|(refine hK' _ _ ?_;clear hK' K')|fail);try refine zS ?_))|(refine zE ?_;refine hK _ _ ?_;clear hK K)|(refine zN ?_;try refine zS ?_)|refine zA ?_|(refine zB ?_;intro K hK)|(refine zC ?_ ?_<;>(try refine zH ?_)<;>intro hcond<;>try exact zX)|fail)
                  refine ⟨b + 1,Weak.headN 2 48 [1, 2, 5, 6, 7, 8] zW (e1:=by first|rfl|(simp [mask,keepL, hB];done)|(simp [mask,keepL, hB]<;>simp_all<;>omega)) (e2:=by first|rfl|(simp [mask,keepL, hB];done)|(simp [mask,keepL, hB]<;>simp_all<;>omega)),?_,?_⟩
                  · exact hltb
                  · omega
              | false =>
                rw [if_neg (by simp)] at hst
                rw [hst] at hB
                repeat' (first|((first|(refine zT ?_;intro K' hK')|(refine zG ?_ ?_<;>(try refine zH ?_)<;>intro hguard<;>(try exact zX)<;>try intro K' hK'))<;>((try simp +contextual only [go_sem, hltbI, Int.toNat_natCast, Nat.mul_one, hd, hg, bC_len, hlen3]);(repeat' first|(with_reducible refine hK' _ _ ?_;clear hK' K')|exact zY|with_reducible refine And.intro ?_ ?_|(with_reducible intro hpath;try exact zP)|(refine hK' _ _ ?_;clear hK' K')|fail);try refine zS ?_))|(refine zE ?_;refine hK _ _ ?_;clear hK K)|(refine zN ?_;try refine zS ?_)|refine zA ?_|(refine zB ?_;intro K hK)|(refine zC ?_ ?_<;>(try refine zH ?_)<;>intro hcond<;>try exact zX)|fail)
                refine ⟨b + 1,Weak.headN 2 48 [1, 2, 5, 6, 7, 8] zW (e1:=by first|rfl|(simp [mask,keepL, hB];done)|(simp [mask,keepL, hB]<;>simp_all<;>omega)) (e2:=by first|rfl|(simp [mask,keepL, hB];done)|(simp [mask,keepL, hB]<;>simp_all<;>omega)),?_,?_⟩
                · exact hltb
                · omega
            · have eb : b = n := by omega
              subst eb
              have hnl : ¬ ((b : Int) < b) := by omega
              have hA' : (List.range (a + 1)).foldl (fun R a => rRow es b a R) R = (List.range b).foldl (rStep es a) S := hA
              repeat' (first|((first|(refine zT ?_;intro K' hK')|(refine zG ?_ ?_<;>(try refine zH ?_)<;>intro hguard<;>(try exact zX)<;>try intro K' hK'))<;>((try simp +contextual only [go_sem, hnl]);(repeat' first|(with_reducible refine hK' _ _ ?_;clear hK' K')|exact zY|with_reducible refine And.intro ?_ ?_|(with_reducible intro hpath;try exact zP)|(refine hK' _ _ ?_;clear hK' K')|fail);try refine zS ?_))|(refine zE ?_;refine hK _ _ ?_;clear hK K)|(refine zN ?_;try refine zS ?_)|refine zA ?_|(refine zB ?_;intro K hK)|(refine zC ?_ ?_<;>(try refine zH ?_)<;>intro hcond<;>try exact zX)|fail)
              refine ⟨a + 1,Weak.headN 2 48 [1, 2, 5, 6, 7] zW (e1:=by first|rfl|(simp [mask,keepL, hA'];done)|(simp [mask,keepL, hA']<;>simp_all<;>omega)) (e2:=by first|rfl|(simp [mask,keepL, hA'];done)|(simp [mask,keepL, hA']<;>simp_all<;>omega)),?_,?_⟩
              · exact hlta
              · omega
        · have ea : a = n := by omega
          subst ea
          have hnl : ¬ ((a : Int) < a) := by omega
          have hN' : reachN es a v (k + 1) = (List.range a).foldl (fun R b => rRow es a b R) R := hN
          repeat' (first|((first|(refine zT ?_;intro K' hK')|(refine zG ?_ ?_<;>(try refine zH ?_)<;>intro hguard<;>(try exact zX)<;>try intro K' hK'))<;>((try simp +contextual only [go_sem, hnl]);(repeat' first|(with_reducible refine hK' _ _ ?_;clear hK' K')|exact zY|with_reducible refine And.intro ?_ ?_|(with_reducible intro hpath;try exact zP)|(refine hK' _ _ ?_;clear hK' K')|fail);try refine zS ?_))|(refine zE ?_;refine hK _ _ ?_;clear hK K)|(refine zN ?_;try refine zS ?_)|refine zA ?_|(refine zB ?_;intro K hK)|(refine zC ?_ ?_<;>(try refine zH ?_)<;>intro hcond<;>try exact zX)|fail)
          refine ⟨k + 1,Weak.headN 2 48 [1, 2, 5, 6] zW (e1:=by first|rfl|(simp [mask,keepL, hN'];done)|(simp [mask,keepL, hN']<;>simp_all<;>omega)) (e2:=by first|rfl|(simp [mask,keepL, hN'];done)|(simp [mask,keepL, hN']<;>simp_all<;>omega)),?_,?_⟩
          · exact hlt
          · omega
    · have ek : k = n := by omega
      subst ek
      have hnl : ¬ ((k : Int) < k) := by omega
      have hlen := reachN_len es k v k
      repeat' (first|((first|(refine zT ?_;intro K' hK')|(refine zG ?_ ?_<;>(try refine zH ?_)<;>intro hguard<;>(try exact zX)<;>try intro K' hK'))<;>((try simp +contextual only [go_sem, hnl]);(repeat' first|(with_reducible refine hK' _ _ ?_;clear hK' K')|exact zY|with_reducible refine And.intro ?_ ?_|(with_reducible intro hpath;try exact zP)|(refine hK' _ _ ?_;clear hK' K')|fail);try refine zS ?_))|(refine zE ?_;refine hK _ _ ?_;clear hK K)|(refine zN ?_;try refine zS ?_)|refine zA ?_|(refine zB ?_;intro K hK)|(refine zC ?_ ?_<;>(try refine zH ?_)<;>intro hcond<;>try exact zX)|fail)
      have hR := bC_ref hlen (H := [Blk.box [.int .i64 (k : Int), .slice (eRows es) .none], Blk.box (bC (reachN es k v k))]) (id := 1) rfl
      simp [Rets, aret, Tryz.results96, ares, toT1, toT, tbools, reachL, hR]
end Go.Proofs.YtfkegnhpihoncaaGreat
set_option linter.all false
namespace Go.Proofs.YtfkegnhpihoncaaGreat
open Go.Sp
set_option linter.unusedSimpArgs false
set_option linter.unusedVariables false
set_option maxHeartbeats 4000000
set_option maxRecDepth 100000
def orStep (R S : List Bool) (u : Nat) : List Bool := S.set u (S.getD u false || R.getD u false)
def orK (R S : List Bool) (k : Nat) : List Bool := (List.range k).foldl (orStep R) S
theorem orStep_len (R S : List Bool) (u : Nat) : (orStep R S u).length = S.length := by simp [orStep]
theorem orK_len (R S : List Bool) (k : Nat) : (orK R S k).length = S.length := foldl_len (orStep_len R) _ _
def seenStep (es : List E) (n : Nat) (S : List Bool) (v : Nat) : List Bool := if S.getD v false then S else orK (reachL es n v) S n
def seenN (es : List E) (n v : Nat) : List Bool := (List.range v).foldl (seenStep es n) (List.replicate n false)
theorem seenN_len (es : List E) (n v : Nat) : (seenN es n v).length = n := by
  unfold seenN
  rw [foldl_len (fun S v => by unfold seenStep; split <;> simp [orK_len])]; simp
def partsN (es : List E) (n : Nat) : Nat → Nat
  | 0 => 0
  | v + 1 => if (seenN es n v).getD v false then partsN es n v else partsN es n v + 1
theorem partsN_le (es : List E) (n v : Nat) : partsN es n v ≤ v := by
  induction v with
  | zero => exact Nat.le_refl _
  | succ v ih => simp only [partsN]; split <;> omega
theorem getD_of {R : List Bool} {i : Nat} {x : Bool} (h : R[i]? = some x) : R.getD i false = x := by rw [List.getD_eq_getElem?_getD, h]; rfl
theorem Parts_ok (g : G) (n : Nat) (hc : checkG g = 0) (hn : g.n = n) (hl : g.es.length < 2 ^ 30) : ACall Tryz.prog 56 [tG g] (tint (partsN g.es n n)) := by
  have hn12 := (checkG_zero.1 hc).1
  have hre : ∀ v : Nat, v < n → ACall Tryz.prog 96 [tG g, tint v] (tbools (reachL g.es n v)) := fun v hv => Reached_ok g n v hc hn hv hl
  obtain ⟨gn, es⟩ := g
  simp only at hn hl hn12 hre ⊢
  subst hn
  refine ACall.of_body Tryz.func56 rfl (by kernel_rfl) ?_
  simp only [entry, Tryz.ntmps56, tG]
  refine zU ?_
  repeat' (first|((first|(refine zT ?_;intro K' hK')|(refine zG ?_ ?_<;>(try refine zH ?_)<;>intro hguard<;>(try exact zX)<;>try intro K' hK'))<;>((try simp +contextual only [go_sem, made_bools, Int.toNat_natCast, Nat.mul_one, bC_set, bC_len, List.length_replicate]);(repeat' first|(with_reducible refine hK' _ _ ?_;clear hK' K')|exact zY|with_reducible refine And.intro ?_ ?_|(with_reducible intro hpath;try exact zP)|(refine hK' _ _ ?_;clear hK' K')|fail);try refine zS ?_))|(refine zE ?_;refine hK _ _ ?_;clear hK K)|(refine zN ?_;try refine zS ?_)|refine zA ?_|(refine zB ?_;intro K hK)|(refine zC ?_ ?_<;>(try refine zH ?_)<;>intro hcond<;>try exact zX)|fail)
  refine AWp.loopx (α:=Nat) (fun v=>(⟨.c .any :: .c (.ptr 0 0) :: .c (.int .i64 0) :: .c (.int .i64 (partsN es n v)) :: .c (.ref 1 1 0 n n) :: .c (.int .i64 (v : Int)) :: .c .any :: .c .any :: .c .any :: .c .any :: .c .any :: .c .any :: .c .any :: .c .any :: .c .any :: .c .any :: .c .any :: .c .any :: .c .any :: .c .any :: .c .any :: .c .any :: .c .any :: .c .any :: .c .any :: .c .any :: .c .any :: .c .any :: .c .any :: .c .any :: .c .any :: .c .any :: .c .any :: .c .any :: .c .any :: .c .any :: .c .any :: .c .any :: .c .any :: .c .any :: .c .any :: .c .any :: .c .any :: .c .any :: .c .any :: .c .any :: [],[.box [.int .i64 (n : Int), .slice (eRows es) .none], .box (bC (seenN es n v))]⟩:St)) (fun v=>v ≤ n) (fun v=>n - v) (0) (Weak.headL 2 46 [1, 2, 3, 4, 5] zW) ?_ (fun v hI=>?_)
  · exact Nat.zero_le _
  · have hv : v ≤ n := hI
    clear hI
    have hlen := seenN_len es n v
    have hpl := partsN_le es n v
    by_cases hlt : v < n
    · have hltI : (v : Int) < n := by omega
      have hS1 : seenN es n (v + 1) = seenStep es n (seenN es n v) v := foldl_range_succ _ _ _
      have hP1 : partsN es n (v + 1) = if (seenN es n v).getD v false then partsN es n v else partsN es n v + 1 := rfl
      have hrv := hre v hlt
      have hrl := reachN_len es n v n
      generalize partsN es n v = p at *
      generalize seenN es n v = S at *
      obtain ⟨x, hx⟩ := bool_get hlen hlt
      unfold seenStep at hS1
      rw [getD_of hx] at hS1 hP1
      have hd := bC_drop hx
      have hg := bC_get hx
      cases x with
      | true =>
        rw [if_pos rfl] at hS1 hP1
        repeat' (first|((first|(refine zT ?_;intro K' hK')|(refine zG ?_ ?_<;>(try refine zH ?_)<;>intro hguard<;>(try exact zX)<;>try intro K' hK'))<;>((try simp +contextual only [go_sem, hltI, Int.toNat_natCast, Nat.mul_one, hd, hg, bC_len, hlen]);(repeat' first|(with_reducible refine hK' _ _ ?_;clear hK' K')|exact zY|with_reducible refine And.intro ?_ ?_|(with_reducible intro hpath;try exact zP)|(refine hK' _ _ ?_;clear hK' K')|fail);try refine zS ?_))|(refine zE ?_;refine hK _ _ ?_;clear hK K)|(refine zN ?_;try refine zS ?_)|refine zA ?_|(refine zB ?_;intro K hK)|(refine zC ?_ ?_<;>(try refine zH ?_)<;>intro hcond<;>try exact zX)|fail)
        refine ⟨v + 1,Weak.headN 2 46 [1, 2, 3, 4, 5] zW (e1:=by first|rfl|(simp [mask,keepL, hS1, hP1];done)|(simp [mask,keepL, hS1, hP1]<;>simp_all<;>omega)) (e2:=by first|rfl|(simp [mask,keepL, hS1, hP1];done)|(simp [mask,keepL, hS1, hP1]<;>simp_all<;>omega)),?_,?_⟩
        · exact hlt
        · omega
      | false =>
        rw [if_neg (by simp)] at hS1 hP1
        change (reachL es n v).length = n at hrl
        generalize reachL es n v = R at *
        repeat' (first|((first|(refine zT ?_;intro K' hK')|(refine zG ?_ ?_<;>(try refine zH ?_)<;>intro hguard<;>(try exact zX)<;>try intro K' hK'))<;>((try simp +contextual only [go_sem, hltI, Int.toNat_natCast, Nat.mul_one, hd, hg, bC_len, hlen]);(repeat' first|(with_reducible refine hK' _ _ ?_;clear hK' K')|(with_reducible refine zK hrv ?_;try simp +contextual only [go_sem, hltI, Int.toNat_natCast, Nat.mul_one, hd, hg, bC_len, hlen])|exact zY|with_reducible refine And.intro ?_ ?_|(with_reducible intro hpath;try exact zP)|(refine hK' _ _ ?_;clear hK' K')|fail);try refine zS ?_))|(refine zE ?_;refine hK _ _ ?_;clear hK K)|(refine zN ?_;try refine zS ?_)|refine zA ?_|(refine zB ?_;intro K hK)|(refine zC ?_ ?_<;>(try refine zH ?_)<;>intro hcond<;>try exact zX)|fail)
        refine AWp.loopx (α:=Nat) (fun u=>(⟨.c .any :: .c (.ptr 0 0) :: .c (.int .i64 0) :: .c (.int .i64 ((p : Int) + 1)) :: .c (.ref 1 1 0 n n) :: .c (.int .i64 (v : Int)) :: .c (.slice (bRows R) .none) :: .c (.int .i64 (u : Int)) :: .c .any :: .c .any :: .c .any :: .c .any :: .c .any :: .c .any :: .c .any :: .c .any :: .c .any :: .c .any :: .c .any :: .c .any :: .c .any :: .c .any :: .c .any :: .c .any :: .c .any :: .c .any :: .c .any :: .c .any :: .c .any :: .c .any :: .c .any :: .c .any :: .c .any :: .c .any :: .c .any :: .c .any :: .c .any :: .c .any :: .c .any :: .c .any :: .c .any :: .c .any :: .c .any :: .c .any :: .c .any :: .c .any :: [],[.box [.int .i64 (n : Int), .slice (eRows es) .none], .box (bC (orK R S u))]⟩:St)) (fun u=>u ≤ n) (fun u=>n - u) (0) (Weak.headL 2 46 [1, 2, 3, 4, 5, 6, 7] zW) ?_ (fun u hI=>?_)
        · exact Nat.zero_le _
        · have hu : u ≤ n := hI
          clear hI
          have hlen2 : (orK R S u).length = n := (orK_len R S u).trans hlen
          by_cases hltu : u < n
          · have hltuI : (u : Int) < n := by omega
            have hO : orK R S (u + 1) = orStep R (orK R S u) u := foldl_range_succ _ _ _
            generalize orK R S u = T at *
            obtain ⟨y, hy⟩ := bool_get hlen2 hltu
            obtain ⟨z, hz⟩ := bool_get hrl hltu
            unfold orStep at hO
            rw [getD_of hy, getD_of hz] at hO
            have hd2 := bC_drop hy
            have hg2 := bC_get hy
            have hg3 := bRows_get hz
            cases y with
            | true =>
              rw [Bool.true_or] at hO
              repeat' (first|((first|(refine zT ?_;intro K' hK')|(refine zG ?_ ?_<;>(try refine zH ?_)<;>intro hguard<;>(try exact zX)<;>try intro K' hK'))<;>((try simp +contextual only [go_sem, hltuI, Int.toNat_natCast, Nat.mul_one, hd2, hg2, hg3, bC_len, hlen2, bC_set, bRows_len, hrl]);(repeat' first|(with_reducible refine hK' _ _ ?_;clear hK' K')|exact zY|with_reducible refine And.intro ?_ ?_|(with_reducible intro hpath;try exact zP)|(refine hK' _ _ ?_;clear hK' K')|fail);try refine zS ?_))|(refine zE ?_;refine hK _ _ ?_;clear hK K)|(refine zN ?_;try refine zS ?_)|refine zA ?_|(refine zB ?_;intro K hK)|(refine zC ?_ ?_<;>(try refine zH ?_)<;>intro hcond<;>try exact zX)|fail)
              refine ⟨u + 1,Weak.headN 2 46 [1, 2, 3, 4, 5, 6, 7] zW (e1:=by first|rfl|(simp [mask,keepL, hO];done)|(simp [mask,keepL, hO]<;>simp_all<;>omega)) (e2:=by first|rfl|(simp [mask,keepL, hO];done)|(simp [mask,keepL, hO]<;>simp_all<;>omega)),?_,?_⟩
              · exact hltu
              · omega
            | false =>
              rw [Bool.false_or] at hO
              repeat' (first|((first|(refine zT ?_;intro K' hK')|(refine zG ?_ ?_<;>(try refine zH ?_)<;>intro hguard<;>(try exact zX)<;>try intro K' hK'))<;>((try simp +contextual only [go_sem, hltuI, Int.toNat_natCast, Nat.mul_one, hd2, hg2, hg3, bC_len, hlen2, bC_set, bRows_len, hrl]);(repeat' first|(with_reducible refine hK' _ _ ?_;clear hK' K')|exact zY|with_reducible refine And.intro ?_ ?_|(with_reducible intro hpath;try exact zP)|(refine hK' _ _ ?_;clear hK' K')|fail);try refine zS ?_))|(refine zE ?_;refine hK _ _ ?_;clear hK K)|(refine zN ?_;try refine zS ?_)|refine zA ?_|(refine zB ?_;intro K hK)|(refine zC ?_ ?_<;>(try refine zH ?_)<;>intro hcond<;>try exact zX)|fail)
              refine ⟨u + 1,Weak.headN 2 46 [1, 2, 3, 4, 5, 6, 7] zW (e1:=by first|rfl|(simp [mask,keepL, hO];done)|(simp [mask,keepL, hO]<;>simp_all<;>omega)) (e2:=by first|rfl|(simp [mask,keepL, hO];done)|(simp [mask,keepL, hO]<;>simp_all<;>omega)),?_,?_⟩
              · exact hltu
              · omega
          · have eu : u = n := by omega
            subst eu
            have hnl : ¬ ((u : Int) < u) := by omega
            repeat' (first|((first|(refine zT ?_;intro K' hK')|(refine zG ?_ ?_<;>(try refine zH ?_)<;>intro hguard<;>(try exact zX)<;>try intro K' hK'))<;>((try simp +contextual only [go_sem, hnl]);(repeat' first|(with_reducible refine hK' _ _ ?_;clear hK' K')|exact zY|with_reducible refine And.intro ?_ ?_|(with_reducible intro hpath;try exact zP)|(refine hK' _ _ ?_;clear hK' K')|fail);try refine zS ?_))|(refine zE ?_;refine hK _ _ ?_;clear hK K)|(refine zN ?_;try refine zS ?_)|refine zA ?_|(refine zB ?_;intro K hK)|(refine zC ?_ ?_<;>(try refine zH ?_)<;>intro hcond<;>try exact zX)|fail)
            refine ⟨v + 1,Weak.headN 2 46 [1, 2, 3, 4, 5] zW (e1:=by first|rfl|(simp [mask,keepL, hS1, hP1];done)|(simp [mask,keepL, hS1, hP1]<;>simp_all<;>omega)) (e2:=by first|rfl|(simp [mask,keepL, hS1, hP1];done)|(simp [mask,keepL, hS1, hP1]<;>simp_all<;>omega)),?_,?_⟩
            · exact hlt
            · omega
    · have ev : v = n := by omega
      subst ev
      have hnl : ¬ ((v : Int) < v) := by omega
      repeat' (first|((first|(refine zT ?_;intro K' hK')|(refine zG ?_ ?_<;>(try refine zH ?_)<;>intro hguard<;>(try exact zX)<;>try intro K' hK'))<;>((try simp +contextual only [go_sem, hnl]);(repeat' first|(with_reducible refine hK' _ _ ?_;clear hK' K')|exact zY|with_reducible refine And.intro ?_ ?_|(with_reducible intro hpath;try exact zP)|(refine hK' _ _ ?_;clear hK' K')|fail);try refine zS ?_))|(refine zE ?_;refine hK _ _ ?_;clear hK K)|(refine zN ?_;try refine zS ?_)|refine zA ?_|(refine zB ?_;intro K hK)|(refine zC ?_ ?_<;>(try refine zH ?_)<;>intro hcond<;>try exact zX)|fail)
      simp [Rets, aret, Blk.cells, ty, Tryz.results56, ares, toT1, toT, borrow, borrow0, capCell, toTree0, tint]
end Go.Proofs.YtfkegnhpihoncaaGreat
set_option linter.all false
namespace Go.Proofs.YtfkegnhpihoncaaGreat
open Go.Sp
set_option linter.unusedSimpArgs false
set_option linter.unusedVariables false
theorem snoc_ind {α : Type} {P : List α → Prop} (h0 : P []) (h1 : ∀ l x, P l → P (l ++ [x])) (l : List α) : P l := by
  have : ∀ r : List α, P r.reverse := fun r => by
    induction r with
    | nil => simpa using h0
    | cons x xs ih => rw [List.reverse_cons]; exact h1 _ _ ih
  simpa using this l.reverse
inductive Conn (l : List (Int × Int)) (a : Nat) : Nat → Prop
  | refl : Conn l a a
  | step {b c : Nat} : Conn l a b → (((b : Int), (c : Int)) ∈ l ∨ ((c : Int), (b : Int)) ∈ l) → Conn l a c
theorem Conn.trans {l : List (Int × Int)} {a b c : Nat} (h1 : Conn l a b) (h2 : Conn l b c) : Conn l a c := by
  induction h2 with
  | refl => exact h1
  | step _ h ih => exact .step ih h
theorem Conn.one {l : List (Int × Int)} {b c : Nat} (h : ((b : Int), (c : Int)) ∈ l ∨ ((c : Int), (b : Int)) ∈ l) : Conn l b c := .step .refl h
theorem Conn.symm {l : List (Int × Int)} {a b : Nat} (h : Conn l a b) : Conn l b a := by
  induction h with
  | refl => exact .refl
  | step _ h ih => exact (Conn.one h.symm).trans ih
theorem Conn.mono {l m : List (Int × Int)} (hs : ∀ p, p ∈ l → p ∈ m) {a b : Nat} (h : Conn l a b) : Conn m a b := by
  induction h with
  | refl => exact .refl
  | step _ h ih => exact .step ih (h.imp (hs _) (hs _))
theorem root_fix {F : List Nat} (h : FOk F) : ∀ {u : Nat}, u < 12 → F[rootF F 12 u]? = some (rootF F 12 u) := by
  intro u
  induction u using Nat.strongRecOn with
  | _ u ih =>
    intro hu
    have hul : u < F.length := by rw [h.len]; exact hu
    have hle := h.le u hul
    rw [rootF_step h hul]
    by_cases e : F[u] = u
    · rw [if_pos e, List.getElem?_eq_getElem hul, e]
    · rw [if_neg e]; exact ih _ (by omega) (by omega)
theorem root_self {F : List Nat} (h : FOk F) {u : Nat} (hu : u < 12) (e : F[u]? = some u) : rootF F 12 u = u := by
  have hul : u < F.length := by rw [h.len]; exact hu
  rw [rootF_step h hul, if_pos (by rw [List.getElem?_eq_getElem hul] at e; exact Option.some.inj e)]
theorem root_lt {F : List Nat} (h : FOk F) {u : Nat} (hu : u < 12) : rootF F 12 u < 12 := by
  have := rootF_le h (n := 12) hu; omega
theorem root_iff {F : List Nat} (h : FOk F) {u : Nat} (hu : u < 12) : rootF F 12 u = u ↔ F[u]? = some u :=
  ⟨fun e => by have := root_fix h hu; rwa [e] at this, root_self h hu⟩
theorem union_root {F : List Nat} (h : FOk F) {M m : Nat} (hM : M < 12) (hm : m ≤ M) (eM : F[M]? = some M) (em : F[m]? = some m) : ∀ {u : Nat}, u < 12 → rootF (F.set M m) 12 u = if rootF F 12 u = M then m else rootF F 12 u := by
  have h' : FOk (F.set M m) := ⟨by simp [h.len], fun i hi => by
    rw [List.getElem_set]; split
    · omega
    · exact h.le i (by simpa using hi)⟩
  intro u
  induction u using Nat.strongRecOn with
  | _ u ih =>
    intro hu
    have hul : u < F.length := by rw [h.len]; exact hu
    have hul' : u < (F.set M m).length := by simpa using hul
    have hle := h.le u hul
    rw [rootF_step h' hul', List.getElem_set]
    by_cases e : M = u
    · subst e
      rw [if_pos rfl, root_self h hu eM, if_pos rfl]
      by_cases e2 : m = M
      · rw [if_pos e2]; exact e2.symm
      · rw [if_neg e2, ih m (by omega) (by omega), root_self h (by omega) em, if_neg e2]
    · rw [if_neg e, rootF_step h hul]
      by_cases e2 : F[u] = u
      · rw [if_pos e2, if_pos e2, if_neg (fun x => e x.symm)]
      · rw [if_neg e2, if_neg e2]; exact ih _ (by omega) (by omega)
def rootsN (F : List Nat) : Nat → Int
  | 0 => 0
  | k + 1 => rootsN F k + (if F[k]? = some k then 1 else 0)
theorem rootsN_set {F : List Nat} {M m : Nat} (hM : M < F.length) (hne : m ≠ M) (eM : F[M]? = some M) (k : Nat) : rootsN (F.set M m) k = rootsN F k - (if M < k then 1 else 0) := by
  induction k with
  | zero => simp [rootsN]
  | succ k ih =>
    simp only [rootsN, ih]
    by_cases e : M = k
    · subst e
      rw [List.getElem?_set_self hM, if_neg (show ¬ (some m = some M) from fun h => hne (Option.some.inj h)), if_pos eM, if_neg (show ¬ M < M by omega), if_pos (show M < M + 1 by omega)]; omega
    · rw [List.getElem?_set_ne e]
      by_cases e2 : M < k
      · rw [if_pos e2, if_pos (show M < k + 1 by omega)]; omega
      · rw [if_neg e2, if_neg (show ¬ M < k + 1 by omega)]; omega
structure UF (l : List (Int × Int)) : Prop where
  ok : FOk (genS l).1
  sound : ∀ u, u < 12 → Conn l u (rootF (genS l).1 12 u)
  all : ∀ p, p ∈ l → rootF (genS l).1 12 p.1.toNat = rootF (genS l).1 12 p.2.toNat
  cnt : (genS l).2 + 12 = l.length + rootsN (genS l).1 12
def In12 (l : List (Int × Int)) : Prop := ∀ p, p ∈ l → (0 ≤ p.1 ∧ p.1 < 12) ∧ (0 ≤ p.2 ∧ p.2 < 12)
theorem uf (l : List (Int × Int)) (hr : In12 l) : UF l := by
  revert hr
  refine snoc_ind (P := fun l => In12 l → UF l) ?_ ?_ l
  · intro _
    have h0 : FOk (List.range 12) := ⟨by simp, fun i hi => by simp⟩
    refine ⟨h0, fun u hu => ?_, (fun p hp => absurd hp (by simp)), ?_⟩
    · have e : rootF (genS []).1 12 u = u := root_self h0 hu (by rw [List.getElem?_range hu])
      rw [e]; exact .refl
    · decide
  · intro l p ih hr
    have hl := ih fun q hq => hr q (by simp [hq])
    have hp := hr p (by simp)
    obtain ⟨ok, sound, all, cnt⟩ := hl
    have hsn := genS_snoc l p
    have ok' := genStep_ok (s := genS l) ok hp.1 hp.2
    rw [← hsn] at ok'
    generalize hF : (genS l).1 = F at *
    generalize hc : (genS l).2 = c at *
    have h1 : p.1.toNat < 12 := by omega
    have h2 : p.2.toNat < 12 := by omega
    have e1 := root_fix ok h1
    have e2 := root_fix ok h2
    have l1 := root_lt ok h1
    have l2 := root_lt ok h2
    have hgF : (genS (l ++ [p])).1 = F.set (max (rootF F 12 p.1.toNat) (rootF F 12 p.2.toNat)) (min (rootF F 12 p.1.toNat) (rootF F 12 p.2.toNat)) := by rw [hsn]; simp only [genStep, hF]
    have hgc : (genS (l ++ [p])).2 = if rootF F 12 p.1.toNat = rootF F 12 p.2.toNat then c + 1 else c := by rw [hsn]; simp only [genStep, hF, hc]
    have c1 := sound _ h1
    have c2 := sound _ h2
    have hsub : ∀ q, q ∈ l → q ∈ l ++ [p] := fun q hq => by simp [hq]
    have hpp : Conn (l ++ [p]) p.1.toNat p.2.toNat := Conn.one (.inl (by
      have : ((p.1.toNat : Nat) : Int) = p.1 := by omega
      have h3 : ((p.2.toNat : Nat) : Int) = p.2 := by omega
      rw [this, h3]; simp))
    have hab : Conn (l ++ [p]) (rootF F 12 p.1.toNat) (rootF F 12 p.2.toNat) := ((c1.mono hsub).symm.trans hpp).trans (c2.mono hsub)
    generalize ha : rootF F 12 p.1.toNat = a at *
    generalize hb : rootF F 12 p.2.toNat = b at *
    have eM : F[max a b]? = some (max a b) := by rcases Nat.le_total a b with h | h <;> simp [Nat.max_eq_right, Nat.max_eq_left, h, e1, e2]
    have em : F[min a b]? = some (min a b) := by rcases Nat.le_total a b with h | h <;> simp [Nat.min_eq_right, Nat.min_eq_left, h, e1, e2]
    have hun := fun {u : Nat} (hu : u < 12) => union_root ok (M := max a b) (m := min a b) (by omega) (by omega) eM em hu
    refine ⟨ok', fun u hu => ?_, fun q hq => ?_, ?_⟩
    · rw [hgF, hun hu]
      have hs := (sound u hu).mono hsub
      by_cases e : rootF F 12 u = max a b
      · rw [if_pos e]
        refine hs.trans ?_
        rw [e]
        rcases Nat.le_total a b with h | h
        · rw [Nat.max_eq_right h, Nat.min_eq_left h]; exact hab.symm
        · rw [Nat.max_eq_left h, Nat.min_eq_right h]; exact hab
      · rw [if_neg e]; exact hs
    · rw [hgF]
      rcases List.mem_append.1 hq with hq | hq
      · have hq2 := hr q (by simp [hq])
        rw [hun (by omega), hun (by omega), all q hq]
      · obtain rfl := List.mem_singleton.1 hq
        rw [hun h1, hun h2, ha, hb]
        by_cases x : a = max a b <;> by_cases y : b = max a b
        · rw [if_pos x, if_pos y]
        · rw [if_pos x, if_neg y]; omega
        · rw [if_neg x, if_pos y]; omega
        · omega
    · rw [hgF, hgc, List.length_append, List.length_singleton]
      by_cases e : a = b
      · subst e
        rw [if_pos rfl, Nat.max_self, Nat.min_self]
        have hal : a < F.length := by rw [ok.len]; exact l1
        have : F.set a a = F := by
          apply List.ext_getElem?
          intro i
          by_cases hi : a = i
          · subst hi; rw [List.getElem?_set_self hal, e1]
          · rw [List.getElem?_set_ne hi]
        rw [this]; omega
      · rw [if_neg e, rootsN_set (by rw [ok.len]; omega) (by omega) eM, if_pos (by omega)]; omega
theorem conn_root {l : List (Int × Int)} (hr : In12 l) {u w : Nat} (hu : u < 12) (hw : w < 12) : Conn l u w ↔ rootF (genS l).1 12 u = rootF (genS l).1 12 w := by
  have h := uf l hr
  constructor
  · intro hc
    have key : ∀ w, Conn l u w → w < 12 → rootF (genS l).1 12 u = rootF (genS l).1 12 w := by
      intro w hc
      induction hc with
      | refl => intro _; rfl
      | step _ hh ih =>
        intro hw
        rename_i b c _
        rcases hh with hh | hh
        · have := hr _ hh
          rw [ih (by omega)]; simpa using h.all _ hh
        · have := hr _ hh
          rw [ih (by omega)]; simpa using (h.all _ hh).symm
    exact key w hc hw
  · intro e
    have h1 := h.sound u hu
    have h2 := h.sound w hw
    rw [e] at h1
    exact h1.trans h2.symm
theorem isRoot_iff {l : List (Int × Int)} (hr : In12 l) {v : Nat} (hv : v < 12) : (genS l).1[v]? = some v ↔ ¬ ∃ u, u < v ∧ Conn l u v := by
  have h := uf l hr
  rw [← root_iff h.ok hv]
  constructor
  · rintro e ⟨u, hu, hc⟩
    have := (conn_root hr (by omega) hv).1 hc
    have := rootF_le h.ok (n := 12) (v := u) (by omega)
    omega
  · intro hn
    have hle := rootF_le h.ok (n := 12) hv
    by_cases e : rootF (genS l).1 12 v = v
    · exact e
    · exact absurd ⟨_, by omega, (h.sound v hv).symm⟩ hn
def GT (R : List Bool) (u : Nat) : Prop := R.getD u false = true
theorem GT_lt {R : List Bool} {u : Nat} (h : GT R u) : u < R.length := by
  unfold GT at h
  rw [List.getD_eq_getElem?_getD] at h
  by_cases hu : u < R.length
  · exact hu
  · rw [List.getElem?_eq_none (by omega)] at h; simp at h
theorem GT_set {R : List Bool} {b u : Nat} (hb : b < R.length) : GT (R.set b true) u ↔ u = b ∨ GT R u := by
  unfold GT
  rw [List.getD_eq_getElem?_getD, List.getD_eq_getElem?_getD]
  by_cases e : b = u
  · subst e; rw [List.getElem?_set_self hb]; simp
  · rw [List.getElem?_set_ne e]
    constructor
    · intro h; exact .inr h
    · rintro (h | h)
      · exact absurd h.symm e
      · exact h
theorem GT_step {es : List E} {a b u : Nat} {R : List Bool} (hb : b < R.length) : GT (rStep es a R b) u ↔ GT R u ∨ (u = b ∧ GT R a ∧ adjB es a b = true) := by
  unfold rStep
  by_cases h : (R.getD a false && adjB es a b) = true
  · rw [if_pos h, GT_set hb]
    simp only [Bool.and_eq_true] at h
    constructor
    · rintro (rfl | h2)
      · exact .inr ⟨rfl, h.1, h.2⟩
      · exact .inl h2
    · rintro (h2 | ⟨rfl, _⟩)
      · exact .inr h2
      · exact .inl rfl
  · rw [if_neg h]
    simp only [Bool.and_eq_true, not_and] at h
    constructor
    · exact .inl
    · rintro (h2 | ⟨_, h3, h4⟩)
      · exact h2
      · exact absurd h4 (h h3)
theorem fold_inv {f : List Bool → Nat → List Bool} (P : Nat → List Bool → Prop) {z : List Bool} (h0 : P 0 z) (k : Nat) (h1 : ∀ i R, i < k → P i R → P (i + 1) (f R i)) : P k ((List.range k).foldl f z) := by
  induction k with
  | zero => exact h0
  | succ k ih => rw [foldl_range_succ]; exact h1 _ _ (by omega) (ih fun i R hi => h1 i R (by omega))
structure Rd (es : List E) (n : Nat) (R S : List Bool) : Prop where
  len : S.length = n
  up : ∀ u, GT R u → GT S u
theorem row_mono {es : List E} {n a : Nat} {R : List Bool} (hl : R.length = n) : Rd es n R (rRow es n a R) ∧ (GT R a → ∀ b, b < n → adjB es a b = true → GT (rRow es n a R) b) := by
  have := fold_inv (f := rStep es a) (P := fun k S => Rd es n R S ∧ (GT R a → ∀ b, b < k → adjB es a b = true → GT S b)) (z := R) ⟨⟨hl, fun u h => h⟩, fun _ b hb => by omega⟩ n (by
    rintro i S hi ⟨⟨h1, h2⟩, h3⟩
    refine ⟨⟨by rw [rStep_len, h1], fun u hu => (GT_step (by omega)).2 (.inl (h2 u hu))⟩, fun ha b hb hab => ?_⟩
    rw [GT_step (by omega)]
    by_cases e : b = i
    · subst e; exact .inr ⟨rfl, h2 a ha, hab⟩
    · exact .inl (h3 ha b (by omega) hab))
  exact this
theorem round_mono {es : List E} {n : Nat} {R : List Bool} (hl : R.length = n) : Rd es n R (rRound es n R) ∧ (∀ a, a < n → GT R a → ∀ b, b < n → adjB es a b = true → GT (rRound es n R) b) := by
  have := fold_inv (f := fun R a => rRow es n a R) (P := fun k S => Rd es n R S ∧ (∀ a, a < k → GT R a → ∀ b, b < n → adjB es a b = true → GT S b)) (z := R) ⟨⟨hl, fun u h => h⟩, fun a ha => by omega⟩ n (by
    rintro i S hi ⟨⟨h1, h2⟩, h3⟩
    obtain ⟨⟨q1, q2⟩, q3⟩ := row_mono (es := es) (a := i) h1
    refine ⟨⟨q1, fun u hu => q2 u (h2 u hu)⟩, fun a ha hR b hb hab => ?_⟩
    by_cases e : a = i
    · subst e; exact q3 (h2 a hR) b hb hab
    · exact q2 b (h3 a (by omega) hR b hb hab))
  exact this
def ClosedR (es : List E) (n : Nat) (R : List Bool) : Prop := ∀ a, a < n → GT R a → ∀ b, b < n → adjB es a b = true → GT R b
theorem step_same {es : List E} {n a b : Nat} {R : List Bool} (hl : R.length = n) (hb : b < n) (ha : a < n) (h : ClosedR es n R) : rStep es a R b = R := by
  unfold rStep
  by_cases hx : (R.getD a false && adjB es a b) = true
  · rw [if_pos hx]
    simp only [Bool.and_eq_true] at hx
    have := h a ha hx.1 b hb hx.2
    apply List.ext_getElem?
    intro i
    by_cases e : b = i
    · subst e
      rw [List.getElem?_set_self (by omega), List.getElem?_eq_getElem (by omega)]
      unfold GT at this
      rw [List.getD_eq_getElem?_getD, List.getElem?_eq_getElem (by omega)] at this
      simpa using this.symm
    · rw [List.getElem?_set_ne e]
  · rw [if_neg hx]
theorem round_same {es : List E} {n : Nat} {R : List Bool} (hl : R.length = n) (h : ClosedR es n R) : rRound es n R = R := by
  have := fold_inv (f := fun R a => rRow es n a R) (P := fun k S => S = R) (z := R) rfl n (by
    rintro i S hi rfl
    have := fold_inv (f := rStep es i) (P := fun k T => T = S) (z := S) rfl n (by
      rintro j T hj rfl
      exact step_same hl hj hi h)
    exact this)
  exact this
def cntT : List Bool → Nat
  | [] => 0
  | b :: R => (if b then 1 else 0) + cntT R
theorem cntT_le (R : List Bool) : cntT R ≤ R.length := by
  induction R with
  | nil => exact Nat.le_refl _
  | cons b R ih => simp only [cntT, List.length_cons]; split <;> omega
theorem cntT_mono : ∀ {R S : List Bool}, R.length = S.length → (∀ u, GT R u → GT S u) → cntT R ≤ cntT S ∧ (cntT R = cntT S → R = S)
  | [], [], _, _ => ⟨Nat.le_refl _, fun _ => rfl⟩
  | [], _ :: _, h, _ => by simp at h
  | _ :: _, [], h, _ => by simp at h
  | x :: R, y :: S, h, hu => by
    have h0 := hu 0
    have ih := cntT_mono (R := R) (S := S) (by simpa using h) (fun u hx => by have := hu (u + 1); unfold GT at *; simpa using this (by simpa using hx))
    unfold GT at h0
    simp only [cntT]
    cases x <;> cases y
    · simp; exact ⟨ih.1, ih.2⟩
    · simp; omega
    · simp at h0
    · simp
      refine ⟨ih.1, fun h => ih.2 (by omega)⟩
theorem adj_ends {g : G} (hc : checkG g = 0) {a b : Nat} : adjB g.es a b = true ↔ (((a : Int), (b : Int)) ∈ endsL g.es ∨ ((b : Int), (a : Int)) ∈ endsL g.es) := by
  obtain ⟨h1, h2, h3⟩ := checkG_zero.1 hc
  unfold adjB
  rw [decide_eq_true_eq, cntL_pos (fun e he => by have := h2 e he; unfold okE at this; omega)]
  have hmem : ∀ e, e ∈ g.es → (e.a, e.b) ∈ endsL g.es := fun e he => by
    have := h2 e he
    unfold okE at this
    exact List.mem_flatMap.2 ⟨e, he, List.mem_replicate.2 ⟨by omega, rfl⟩⟩
  constructor
  · rintro ⟨e, he, e1, e2⟩
    have := hmem e he
    rw [e1, e2] at this
    rcases Nat.le_total a b with h | h
    · left; rwa [show min (a : Int) b = a by omega, show max (a : Int) b = b by omega] at this
    · right; rwa [show min (a : Int) b = b by omega, show max (a : Int) b = a by omega] at this
  · intro h
    have key : ∀ x y : Int, (x, y) ∈ endsL g.es → ∃ e, e ∈ g.es ∧ e.a = x ∧ e.b = y ∧ x ≤ y := fun x y hxy => by
      obtain ⟨e, he, hx⟩ := endsL_mem hxy
      have := h2 e he
      unfold okE at this
      cases hx
      exact ⟨e, he, rfl, rfl, by omega⟩
    rcases h with h | h
    · obtain ⟨e, he, h4, h5, h6⟩ := key _ _ h
      exact ⟨e, he, by omega, by omega⟩
    · obtain ⟨e, he, h4, h5, h6⟩ := key _ _ h
      exact ⟨e, he, by omega, by omega⟩
theorem ends_in {g : G} {n : Nat} (hc : checkG g = 0) (hn : g.n = n) : ∀ p, p ∈ endsL g.es → (0 ≤ p.1 ∧ p.1 < n) ∧ (0 ≤ p.2 ∧ p.2 < n) := fun p hp => by
  have := ends_range hc hp; omega
theorem reach_spec {g : G} {n v : Nat} (hc : checkG g = 0) (hn : g.n = n) (hv : v < n) {u : Nat} (hu : u < n) : GT (reachL g.es n v) u ↔ Conn (endsL g.es) v u := by
  have hlen : ∀ k, (reachN g.es n v k).length = n := reachN_len g.es n v
  have hsucc : ∀ k, reachN g.es n v (k + 1) = rRound g.es n (reachN g.es n v k) := fun k => foldl_range_succ _ _ _
  have hz : ∀ u, GT (reachN g.es n v 0) u ↔ u = v := fun u => by
    show GT ((List.replicate n false).set v true) u ↔ u = v
    rw [GT_set (by simpa using hv)]
    constructor
    · rintro (h | h)
      · exact h
      · exfalso
        have hl := GT_lt h
        unfold GT at h
        rw [List.getD_eq_getElem?_getD, List.getElem?_eq_getElem hl, List.getElem_replicate] at h
        simp at h
    · exact .inl
  constructor
  · -- sound
    have hstep : ∀ (R : List Bool) (a b : Nat), R.length = n → b < n → (∀ u, GT R u → Conn (endsL g.es) v u) → ∀ u, GT (rStep g.es a R b) u → Conn (endsL g.es) v u := fun R a b hl hb h u hu => by
      rw [GT_step (by omega)] at hu
      rcases hu with hu | ⟨rfl, ha, hab⟩
      · exact h u hu
      · exact .step (h a ha) ((adj_ends hc).1 hab)
    have hall : ∀ k, ∀ u, GT (reachN g.es n v k) u → Conn (endsL g.es) v u := fun k => by
      induction k with
      | zero => intro u hu; rw [(hz u).1 hu]; exact .refl
      | succ k ih =>
        rw [hsucc]
        have := fold_inv (f := fun R a => rRow g.es n a R) (P := fun _ S => S.length = n ∧ ∀ u, GT S u → Conn (endsL g.es) v u) (z := reachN g.es n v k) ⟨hlen k, ih⟩ n (by
          rintro i S hi ⟨h1, h2⟩
          have := fold_inv (f := rStep g.es i) (P := fun _ S => S.length = n ∧ ∀ u, GT S u → Conn (endsL g.es) v u) (z := S) ⟨h1, h2⟩ n (by
            rintro j T hj ⟨h3, h4⟩
            exact ⟨by rw [rStep_len, h3], hstep T i j h3 hj h4⟩)
          exact this)
        exact this.2
    exact hall n u
  · -- complete
    have hgrow : ∀ k, ClosedR g.es n (reachN g.es n v k) ∨ k + 1 ≤ cntT (reachN g.es n v k) := fun k => by
      induction k with
      | zero =>
        right
        have h1 : GT (reachN g.es n v 0) v := (hz v).2 rfl
        by_cases h0 : cntT (reachN g.es n v 0) = 0
        · exfalso
          have key : ∀ R : List Bool, cntT R = 0 → ∀ u, ¬ GT R u := by
            intro R
            induction R with
            | nil => intro _ u h; exact absurd (GT_lt h) (by simp)
            | cons b R ih =>
              intro h u hu
              simp only [cntT] at h
              have hb : b = false := by cases b <;> simp at h ⊢
              subst hb
              cases u with
              | zero => unfold GT at hu; simp at hu
              | succ u => exact ih (by simpa using h) u (by unfold GT at *; simpa using hu)
          exact key _ h0 _ h1
        · omega
      | succ k ih =>
        obtain ⟨⟨q1, q2⟩, q3⟩ := round_mono (es := g.es) (hlen k)
        rw [hsucc]
        by_cases hcl : ClosedR g.es n (reachN g.es n v k)
        · left; rw [round_same (hlen k) hcl]; exact hcl
        · right
          have hk : k + 1 ≤ cntT (reachN g.es n v k) := ih.resolve_left hcl
          obtain ⟨c1, c2⟩ := cntT_mono (by rw [hlen k, q1]) q2
          by_cases e : cntT (reachN g.es n v k) = cntT (rRound g.es n (reachN g.es n v k))
          · exfalso
            refine hcl fun a ha hR b hb hab => ?_
            have := q3 a ha hR b hb hab
            rwa [← c2 e] at this
          · omega
    have hcl : ClosedR g.es n (reachN g.es n v n) := by
      rcases hgrow n with h | h
      · exact h
      · have := cntT_le (reachN g.es n v n); rw [hlen n] at this; omega
    have hvT : ∀ k, GT (reachN g.es n v k) v := fun k => by
      induction k with
      | zero => exact (hz v).2 rfl
      | succ k ih => rw [hsucc]; exact (round_mono (es := g.es) (hlen k)).1.up v ih
    intro hcn
    have key : ∀ w, Conn (endsL g.es) v w → GT (reachN g.es n v n) w := by
      intro w hw
      induction hw with
      | refl => exact hvT n
      | step _ hh ih =>
        rename_i b c _
        have hb : b < n ∧ c < n := by
          rcases hh with hh | hh <;> (have := ends_in hc hn _ hh; simp only at this; omega)
        exact hcl b hb.1 ih c hb.2 ((adj_ends hc).2 hh)
    exact key u hcn
theorem or_spec {R S : List Bool} {n : Nat} (hS : S.length = n) (u : Nat) (hu : u < n) : GT (orK R S n) u ↔ GT S u ∨ GT R u := by
  have := fold_inv (f := orStep R) (P := fun k T => T.length = n ∧ ∀ u, u < n → (GT T u ↔ GT S u ∨ (u < k ∧ GT R u))) (z := S) ⟨hS, fun u _ => by simp⟩ n (by
    rintro i T hi ⟨h1, h2⟩
    refine ⟨by rw [orStep_len, h1], fun u hu => ?_⟩
    unfold orStep
    by_cases e : i = u
    · subst e
      unfold GT at h2 ⊢
      have h3 := h2 i hu
      rw [List.getD_eq_getElem?_getD, List.getElem?_set_self (by omega), Option.getD_some, Bool.or_eq_true, h3]
      constructor
      · rintro ((h | h) | h)
        · exact .inl h
        · omega
        · exact .inr ⟨by omega, h⟩
      · rintro (h | ⟨_, h⟩)
        · exact .inl (.inl h)
        · exact .inr h
    · have h3 := h2 u hu
      unfold GT at h3 ⊢
      rw [List.getD_eq_getElem?_getD, List.getElem?_set_ne e, ← List.getD_eq_getElem?_getD, h3]
      constructor
      · rintro (h | ⟨h, h'⟩)
        · exact .inl h
        · exact .inr ⟨by omega, h'⟩
      · rintro (h | ⟨h, h'⟩)
        · exact .inl h
        · exact .inr ⟨by omega, h'⟩)
  have h3 := this.2 u hu
  unfold orK
  rw [h3]
  constructor
  · rintro (h | ⟨_, h⟩)
    · exact .inl h
    · exact .inr h
  · rintro (h | h)
    · exact .inl h
    · exact .inr ⟨hu, h⟩
theorem seen_spec {g : G} {n : Nat} (hc : checkG g = 0) (hn : g.n = n) : ∀ v, v ≤ n → ∀ u, u < n → (GT (seenN g.es n v) u ↔ ∃ w, w < v ∧ Conn (endsL g.es) w u) := by
  intro v
  induction v with
  | zero =>
    intro _ u hu
    constructor
    · intro h
      exfalso
      have hl := GT_lt h
      unfold GT at h
      rw [List.getD_eq_getElem?_getD, List.getElem?_eq_getElem hl] at h
      simp [seenN] at h
    · rintro ⟨w, hw, _⟩; omega
  | succ v ih =>
    intro hv u hu
    have ih := ih (by omega)
    have hS1 : seenN g.es n (v + 1) = seenStep g.es n (seenN g.es n v) v := foldl_range_succ _ _ _
    rw [hS1]
    unfold seenStep
    by_cases h : (seenN g.es n v).getD v false = true
    · rw [if_pos h, ih u hu]
      obtain ⟨w, hw, hcw⟩ := (ih v (by omega)).1 h
      constructor
      · rintro ⟨x, hx, h2⟩; exact ⟨x, by omega, h2⟩
      · rintro ⟨x, hx, h2⟩
        by_cases e : x = v
        · subst e; exact ⟨w, hw, hcw.trans h2⟩
        · exact ⟨x, by omega, h2⟩
    · rw [if_neg h, or_spec (seenN_len g.es n v) u hu, ih u hu, reach_spec hc hn (by omega) hu]
      constructor
      · rintro (⟨x, hx, h2⟩ | h2)
        · exact ⟨x, by omega, h2⟩
        · exact ⟨v, by omega, h2⟩
      · rintro ⟨x, hx, h2⟩
        by_cases e : x = v
        · subst e; exact .inr h2
        · exact .inl ⟨x, by omega, h2⟩
theorem parts_roots {g : G} {n : Nat} (hc : checkG g = 0) (hn : g.n = n) : ∀ v, v ≤ n → (partsN g.es n v : Int) = rootsN (genS (endsL g.es)).1 v := by
  have hn12 := (checkG_zero.1 hc).1
  have hr : In12 (endsL g.es) := fun p hp => by have := ends_in hc hn p hp; omega
  intro v
  induction v with
  | zero => intro _; rfl
  | succ v ih =>
    intro hv
    have ih := ih (by omega)
    have hsp := seen_spec hc hn v (by omega) v (by omega)
    have hrt := isRoot_iff hr (v := v) (by omega)
    simp only [partsN, rootsN]
    unfold GT at hsp
    by_cases h : (seenN g.es n v).getD v false = true
    · rw [if_pos h, if_neg (fun e => hrt.1 e (hsp.1 h))]; omega
    · rw [if_neg h, if_pos (hrt.2 fun e => h (hsp.2 e))]; omega
end Go.Proofs.YtfkegnhpihoncaaGreat
