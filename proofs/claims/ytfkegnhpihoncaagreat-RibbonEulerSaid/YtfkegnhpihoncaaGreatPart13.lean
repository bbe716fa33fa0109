/- A part of the proof: contracts of functions of the program, and plain lemmas. -/
import Derived.Test.YtfkegnhpihoncaaGreatPart12
import Derived.Test.YtfkegnhpihoncaaGreatLayerC
import Derived.Test.YtfkegnhpihoncaaGreatPart11
import Derived.Test.YtfkegnhpihoncaaGreatPart08
import Derived.Test.YtfkegnhpihoncaaGreatPart10
import Derived.Test.YtfkegnhpihoncaaGreatPart07
import Derived.Test.YtfkegnhpihoncaaGreatPart09
set_option linter.all false
namespace Go.Proofs.YtfkegnhpihoncaaGreat
open Go.Sp
set_option linter.unusedSimpArgs false
set_option linter.unusedVariables false
set_option maxHeartbeats 4000000
set_option maxRecDepth 100000
structure RSm (r : R) : Prop where
  es : r.es.length ≤ 40
  ar : r.ar.length < 2 ^ 20
  l : ∀ l, l ∈ r.ar → l.length < 2 ^ 20
theorem ends_len {g : G} (hl : g.es.length ≤ 40) (hc : checkG g = 0) : (endsL g.es).length ≤ 2000 := by
  obtain ⟨_, h2, _⟩ := checkG_zero.1 hc
  have := endsL_len (es := g.es) fun e he => by have := h2 e he; unfold okE at this; omega
  omega
theorem rjoined_ok (g : G) (hl : g.es.length ≤ 40) : ACall Tryz.prog 66 [tG g] (.tup [tpairs (if checkG g ≠ 0 then [] else endsL g.es), tint (joinedE g)]) := by
  have hE := Ends_ok g (by omega)
  have hC := Connected_ok g (by omega)
  unfold joinedE
  by_cases hc : checkG g = 0
  · rw [if_neg (by omega)] at hE ⊢
    rw [if_neg (by omega)]
    rw [hc, decide_eq_true rfl, Bool.true_and] at hC
    generalize connB g = b at *
    generalize endsL g.es = L at *
    obtain ⟨n, es⟩ := g
    refine ACall.of_body Tryz.func66 rfl (by kernel_rfl) ?_
    simp only [entry, Tryz.ntmps66, tG]
    refine zU ?_
    cases b with
    | true =>
      rw [if_pos rfl]
      refine zR trivial (zc hE (zc hC trivial)) trivial ?_
      simp [Rets, aret, Blk.cells, ty, Tryz.results66, ares, toT1, toT, borrow, borrow0, capCell, toTree0, tint, tpairs]
    | false =>
      rw [if_neg (by simp)]
      refine zR trivial (zc hE (zc hC trivial)) trivial ?_
      simp [Rets, aret, Blk.cells, ty, Tryz.results66, ares, toT1, toT, borrow, borrow0, capCell, toTree0, tint, tpairs]
  · rw [if_pos hc] at hE ⊢
    rw [if_pos hc]
    generalize checkG g = E at *
    obtain ⟨n, es⟩ := g
    refine ACall.of_body Tryz.func66 rfl (by kernel_rfl) ?_
    simp only [entry, Tryz.ntmps66, tG]
    refine zU ?_
    refine zR (zc @hc trivial) (zc hE trivial) trivial ?_
    simp [Rets, aret, Blk.cells, ty, Tryz.results66, ares, toT1, toT, borrow, borrow0, capCell, toTree0, tint, tpairs, pRows]
theorem rchecked_ok (r : R) (hr : RSm r) : ACall Tryz.prog 49 [tR r] (.tup [tpairs (if ribE r ≠ 0 then [] else endsL r.es), tint (ribE r)]) := by
  have hJ := rjoined_ok r.g hr.es
  by_cases hj : joinedE r.g = 0
  case neg =>
    have e : ribE r = joinedE r.g := by unfold ribE; rw [if_pos hj]
    rw [e, if_pos hj]
    have hL : ∃ L, (if checkG r.g ≠ 0 then [] else endsL r.g.es) = L := ⟨_, rfl⟩
    obtain ⟨L, hL⟩ := hL
    rw [hL] at hJ
    generalize joinedE r.g = E at *
    obtain ⟨n, es, ar⟩ := r
    refine ACall.of_body Tryz.func49 rfl (by kernel_rfl) ?_
    simp only [entry, Tryz.ntmps49, tR]
    refine zU ?_
    refine zR (zc @hj trivial) (zc hJ trivial) trivial ?_
    simp [Rets, aret, Blk.cells, ty, Tryz.results49, ares, toT1, toT, borrow, borrow0, capCell, toTree0, tint, tpairs, pRows]
  have hc : checkG r.g = 0 := by
    unfold joinedE at hj
    by_cases h : checkG r.g = 0
    · exact h
    · rw [if_pos h] at hj; exact absurd hj h
  have h12 := (checkG_zero.1 hc).1
  rw [if_neg (by omega), hj] at hJ
  have hlen := ends_len (g := r.g) hr.es hc
  have hat : ∀ h, h < 2 * (endsL r.es).length → 0 ≤ atL (endsL r.es) h ∧ atL (endsL r.es) h < (r.n.toNat : Nat) := fun h hh => by
    have h12' : 1 ≤ r.n := h12.1
    have := atL_range hc hh; omega
  have hn : r.n = (r.n.toNat : Nat) := by have h12' : 1 ≤ r.n := h12.1; omega
  have hnb : r.n ≤ 12 := h12.2
  have hA := hr.ar
  have hLl := hr.l
  have eR : ribE r = if (r.ar.length : Int) ≠ r.n then 8 else chkGo (endsL r.es) (2 * (endsL r.es).length) 0 r.ar := by unfold ribE; rw [if_neg (by omega)]
  rw [eR]
  have hH := halves_ok (endsL r.es) r.n.toNat (by omega) (by have : (endsL r.es).length ≤ 2000 := hlen; omega) hat
  rw [← hn] at hH
  clear hr hj hc h12 hat eR
  obtain ⟨n, es, ar⟩ := r
  simp only [R.g] at hJ hlen hH hn hnb hA hLl ⊢
  generalize endsL es = L at *
  generalize hk : n.toNat = k at *
  subst hn
  refine ACall.of_body Tryz.func49 rfl (by kernel_rfl) ?_
  simp only [entry, Tryz.ntmps49, tR]
  refine zU ?_
  by_cases hlen2 : ar.length = k
  case neg =>
    have hI : ¬ ((ar.length : Int) = k) := by omega
    rw [if_pos hI]
    refine zR (zc @llRows_len (zc @hI trivial)) (zc hJ trivial) trivial ?_
    simp [Rets, aret, Blk.cells, ty, Tryz.results49, ares, toT1, toT, borrow, borrow0, capCell, toTree0, tint, tpairs, pRows]
  have hI : (ar.length : Int) = k := by omega
  rw [if_neg (show ¬ ((ar.length : Int) ≠ (k : Int)) by omega)]
  refine zR (zc @llRows_len (zc @hI (zc @halvesL_len trivial))) (zc hJ (zc hH trivial)) trivial ?_
  refine AWp.loopS (α:=Nat) 48 (fun i=>[(1,.c (.ptr 0 0)),(4,.c (.slice (pRows L) .none)),(29,.c (.slice (llRows (halvesL L k (2 * L.length))) .none)),(30,.c (.int .i64 (k : Int))),(31,.c (.int .i64 (i : Int)))]) (fun i=>[.box [.int .i64 (k : Int), .slice (eRows es) .none, .slice (llRows ar) .none]]) (fun i=>i ≤ k ∧ chkGo L (2 * L.length) 0 ar = chkGo L (2 * L.length) i (ar.drop i)) (fun i=>k - i) (0) (hk:=Weak.headL 1 48 [1, 4, 29, 30, 31] zW) (h0:=?_) (round:=fun i hI=>?_)
  · exact ⟨Nat.zero_le _, rfl⟩
  · obtain ⟨hi, hI2⟩ := hI
    by_cases hlt : i < k
    · have hltI : (i : Int) < k := by omega
      have hil : i < ar.length := by omega
      have e0 := List.getElem?_eq_getElem hil
      have e1 := llRows_get e0
      have e2 := llRows_get (halvesL_get (L := L) (k := 2 * L.length) hlt)
      have hd := List.drop_eq_getElem_cons hil
      have hl := hLl _ (List.getElem_mem hil)
      generalize ar[i] = l at *
      have hol := ownL_len L (i : Int) (2 * L.length)
      have hlist := list_ok l (ownL L (i : Int) (2 * L.length)) (ownL_sorted _ _ _) (by omega) (by omega)
      have hg : chkGo L (2 * L.length) i (l :: ar.drop (i + 1)) = if lstErr l (ownL L (i : Int) (2 * L.length)) ≠ 0 then lstErr l (ownL L (i : Int) (2 * L.length)) else chkGo L (2 * L.length) (i + 1) (ar.drop (i + 1)) := rfl
      rw [← hd, ← hI2] at hg
      generalize lstErr l (ownL L (i : Int) (2 * L.length)) = E at *
      by_cases hE : E = 0
      · rw [if_neg (by omega)] at hg
        subst hE
        refine zR (zc @hltI (zc @llRows_len (zc @hI (zc @e1 (zc @e2 trivial))))) (zc hlist trivial) trivial ?_
        refine ⟨i + 1,Weak.headN 1 48 [1, 4, 29, 30, 31] zW,?_,?_⟩
        · exact ⟨hlt, hg⟩
        · omega
      · rw [if_pos hE] at hg
        rw [hg, if_pos hE]
        refine zR (zc @hltI (zc @llRows_len (zc @hI (zc @e1 (zc @e2 (zc @hE trivial)))))) (zc hlist trivial) trivial ?_
        simp [Rets, aret, Blk.cells, ty, Tryz.results49, ares, toT1, toT, borrow, borrow0, capCell, toTree0, tint, tpairs, pRows]
    · have ei : i = k := by omega
      subst ei
      have hz : chkGo L (2 * L.length) 0 ar = 0 := by rw [hI2, List.drop_eq_nil_of_le (by omega)]; rfl
      have hnl : ¬ ((i : Int) < i) := by omega
      rw [hz, if_neg (by omega)]
      refine zR (zc @hnl trivial) trivial trivial ?_
      simp [Rets, aret, Blk.cells, ty, Tryz.results49, ares, toT1, toT, borrow, borrow0, capCell, toTree0, tint, tpairs]
end Go.Proofs.YtfkegnhpihoncaaGreat
set_option linter.all false
namespace Go.Proofs.YtfkegnhpihoncaaGreat
open Go.Sp
set_option linter.unusedSimpArgs false
set_option linter.unusedVariables false
def leastGo (l : List Int) : Nat → Nat
  | 0 => 0
  | k + 1 => if l.getD (k + 1) 0 < l.getD (leastGo l k) 0 then k + 1 else leastGo l k
theorem leastGo_spec (l : List Int) : ∀ k : Nat, leastGo l k ≤ k ∧ (∀ i, i ≤ k → l.getD (leastGo l k) 0 ≤ l.getD i 0) ∧ ∀ i, i < leastGo l k → l.getD (leastGo l k) 0 < l.getD i 0
  | 0 => ⟨Nat.le_refl _, fun i hi => by rw [show i = 0 by omega]; exact Int.le_refl _, fun i hi => absurd hi (Nat.not_lt_zero _)⟩
  | k + 1 => by
    obtain ⟨h1, h2, h3⟩ := leastGo_spec l k
    simp only [leastGo]
    split
    · rename_i h
      refine ⟨Nat.le_refl _, fun i hi => ?_, fun i hi => ?_⟩
      · rcases Nat.lt_or_eq_of_le hi with h4 | h4
        · have := h2 i (by omega); omega
        · subst h4; exact Int.le_refl _
      · have := h2 i (by omega); omega
    · rename_i h
      refine ⟨by omega, fun i hi => ?_, h3⟩
      rcases Nat.lt_or_eq_of_le hi with h4 | h4
      · exact h2 i (by omega)
      · subst h4; omega
def leastN (l : List Int) : Nat := leastGo l (l.length - 1)
def turnL (l : List Int) : List Int := l.drop (leastN l) ++ l.take (leastN l)
theorem leastN_lt {l : List Int} (h : l ≠ []) : leastN l < l.length := by
  have := (leastGo_spec l (l.length - 1)).1
  have := List.length_pos_iff.2 h
  unfold leastN; omega
theorem turnL_nil : turnL [] = [] := rfl
def mirL (ar : List (List Int)) : List (List Int) := ar.map fun l => turnL l.reverse
def facesR (r : R) : List (List Nat) := if (endsL r.es).length = 0 then [[]] else facesN (fR (endsL r.es) r.ar) (2 * (endsL r.es).length) (2 * (endsL r.es).length)
def genusR (r : R) : Int := Int.tdiv (2 - r.n + (endsL r.es).length - (facesR r).length) 2
end Go.Proofs.YtfkegnhpihoncaaGreat
set_option linter.all false
namespace Go.Proofs.YtfkegnhpihoncaaGreat
open Go.Sp
set_option linter.unusedSimpArgs false
set_option linter.unusedVariables false
set_option maxHeartbeats 4000000
set_option maxRecDepth 100000
theorem Holds_ok (l : List Int) (v : Int) (hl : l.length < 2 ^ 40) : ACall Tryz.prog 82 [tints l, tint v] (tbool (decide (v ∈ l))) := by
  refine ACall.of_body Tryz.func82 rfl (by kernel_rfl) ?_
  simp only [entry, Tryz.ntmps82, tints, tint]
  refine zU ?_
  refine zR trivial trivial trivial ?_
  refine AWp.loopS (α:=Nat) 18 (fun i=>[(0,.c (.slice (iRows l) .none)),(1,.c (.int .i64 v)),(5,.c (.int .i64 (i : Int)))]) (fun i=>[]) (fun i=>i ≤ l.length ∧ (v ∈ l ↔ v ∈ l.drop i)) (fun i=>l.length - i) (0) (hk:=Weak.headL 0 18 [0, 1, 5] zW) (h0:=?_) (round:=fun i hI=>?_)
  · exact ⟨Nat.zero_le _, Iff.rfl⟩
  · obtain ⟨hi, hx⟩ := hI
    by_cases hlt : i < l.length
    · have e1 := iRows_get (List.getElem?_eq_getElem hlt)
      rw [List.drop_eq_getElem_cons hlt, List.mem_cons] at hx
      generalize l[i] = x at *
      repeat' (first|((first|(refine zT ?_;intro K' hK')|(refine zG ?_ ?_<;>(try refine zH ?_)<;>intro hguard<;>(try exact zX)<;>try intro K' hK'))<;>((try simp +contextual only [go_sem, e1, iRows_len, Int.toNat_natCast, Int.ofNat_lt]);(repeat' first|(with_reducible refine hK' _ _ ?_;clear hK' K')|exact zY|with_reducible refine And.intro ?_ ?_|(with_reducible intro hpath;try exact zP)|(refine hK' _ _ ?_;clear hK' K')|fail);try refine zS ?_))|(refine zE ?_;refine hK _ _ ?_;clear hK K)|(refine zN ?_;try refine zS ?_)|refine zA ?_|(refine zB ?_;intro K hK)|(refine zC ?_ ?_<;>(try refine zH ?_)<;>intro hcond<;>try exact zX)|fail)
      · have e : v ∈ l := hx.2 (.inl (by omega))
        simp [Rets, aret, Blk.cells, ty, Tryz.results82, ares, toT1, toT, borrow, borrow0, capCell, toTree0, tbool, e]
      · refine ⟨i + 1,Weak.headN 0 18 [0, 1, 5] zW,?_,?_⟩
        · refine ⟨hlt, hx.trans ⟨fun h => h.resolve_left (by omega), .inr⟩⟩
        · omega
    · have ei : i = l.length := by omega
      have e : ¬ v ∈ l := fun h => by have := hx.1 h; rw [ei, List.drop_length] at this; cases this
      refine zR (zc @iRows_len (zc @Int.ofNat_lt trivial)) trivial trivial ?_
      simp [Rets, aret, Blk.cells, ty, Tryz.results82, ares, toT1, toT, borrow, borrow0, capCell, toTree0, tbool, e]
end Go.Proofs.YtfkegnhpihoncaaGreat
set_option linter.all false
namespace Go.Proofs.YtfkegnhpihoncaaGreat
open Go.Sp
set_option linter.unusedSimpArgs false
set_option linter.unusedVariables false
set_option maxHeartbeats 4000000
set_option maxRecDepth 100000
def renGo (n : Int) : List Int → List Int → Int
  | _, [] => 0
  | prev, v :: l => if ¬ (0 ≤ v ∧ v < n) then 2 else if v ∈ prev then 7 else renGo n (prev ++ [v]) l
def rnmE (n : Int) (l : List Int) : Int := if (l.length : Int) ≠ n then 8 else renGo n [] l
noncomputable def relE (g : G) (l : List Int) : Int := if checkG g ≠ 0 then checkG g else rnmE g.n l
noncomputable def relG (g : G) (l : List Int) : G := if relE g l ≠ 0 then ⟨0, []⟩ else ⟨g.n, sortE (movL (fun v => l.getD v.toNat 0) g.es)⟩
end Go.Proofs.YtfkegnhpihoncaaGreat
set_option linter.all false
namespace Go.Proofs.YtfkegnhpihoncaaGreat
open Go.Sp
set_option linter.unusedSimpArgs false
set_option linter.unusedVariables false
def sumR (f : Nat → Int) : Nat → Int
  | 0 => 0
  | n + 1 => sumR f n + f n
theorem sumR_add (f g : Nat → Int) (n : Nat) : sumR (fun i => f i + g i) n = sumR f n + sumR g n := by
  induction n with
  | zero => rfl
  | succ n ih => simp only [sumR, ih]; omega
theorem sumR_zero {f : Nat → Int} {n : Nat} (h : ∀ i, i < n → f i = 0) : sumR f n = 0 := by
  induction n with
  | zero => rfl
  | succ n ih => simp only [sumR, ih fun i hi => h i (by omega), h n (by omega)]; rfl
theorem sumR_congr {f g : Nat → Int} {n : Nat} (h : ∀ i, i < n → f i = g i) : sumR f n = sumR g n := by
  induction n with
  | zero => rfl
  | succ n ih => simp only [sumR, ih fun i hi => h i (by omega), h n (by omega)]
theorem sumR_bound {f : Nat → Int} {n : Nat} {k : Int} (h : ∀ i, i < n → 0 ≤ f i ∧ f i ≤ k) : 0 ≤ sumR f n ∧ sumR f n ≤ k * n := by
  induction n with
  | zero => simp [sumR]
  | succ n ih =>
    have h1 := ih fun i hi => h i (by omega)
    have h2 := h n (by omega)
    have h3 : k * ((n + 1 : Nat) : Int) = k * (n : Int) + k := by rw [Int.natCast_add, Int.mul_add]; simp
    simp only [sumR]; omega
theorem sumR_one {c m : Int} : ∀ {n : Nat}, 0 ≤ c → c < n → sumR (fun i => if (i : Int) = c then m else 0) n = m := by
  intro n
  induction n with
  | zero => intro h1 h2; omega
  | succ n ih =>
    intro h1 h2
    simp only [sumR]
    by_cases e : (n : Int) = c
    · rw [if_pos e, sumR_zero (fun i hi => if_neg (by omega))]; omega
    · rw [if_neg e, ih h1 (by omega)]; omega
theorem distinct_of {es : List E} (h : es.Pairwise ltE) : distinctE es := h.imp fun {x y} h => by unfold ltE at h; unfold neE; omega
theorem cntL_zero {es : List E} {a b : Int} (h : ∀ x, x ∈ es → ¬ (x.a = a ∧ x.b = b)) : cntL es a b = 0 := by
  induction es with
  | nil => rfl
  | cons x xs ih => simp only [cntL]; rw [if_neg (h x (by simp)), ih fun y hy => h y (by simp [hy])]
theorem cntL_cons {x : E} {xs : List E} (h : distinctE (x :: xs)) (a b : Int) : cntL (x :: xs) a b = (if x.a = a ∧ x.b = b then x.m else 0) + cntL xs a b := by
  simp only [cntL]
  by_cases hx : x.a = a ∧ x.b = b
  · rw [if_pos hx, if_pos hx, cntL_zero fun y hy => by
      have := (List.pairwise_cons.1 h).1 y hy
      unfold neE at this; omega]
    omega
  · rw [if_neg hx, if_neg hx]; omega
theorem endsL_cons (x : E) (xs : List E) : endsL (x :: xs) = List.replicate x.m.toNat (x.a, x.b) ++ endsL xs := by simp [endsL]
theorem degL_rep (v : Int) (p : Int × Int) (k : Nat) : degL v (List.replicate k p) = k * (b2i (p.1 = v) + b2i (p.2 = v)) := by
  induction k with
  | zero => simp [degL]
  | succ k ih => rw [List.replicate_succ]; simp only [degL, ih]; rw [Int.natCast_add, Int.add_mul]; omega
theorem degL_val {es : List E} (hd : distinctE es) (hm : ∀ x, x ∈ es → 1 ≤ x.m) (v : Int) : degL v (endsL es) = valL v es + 2 * cntL es v v := by
  induction es with
  | nil => rfl
  | cons x xs ih =>
    have h1 := hm x (by simp)
    have h2 := ih (List.pairwise_cons.1 hd).2 fun y hy => hm y (by simp [hy])
    rw [endsL_cons, degL_append, degL_rep, h2, cntL_cons hd, valL]
    have e : ((x.m.toNat : Nat) : Int) = x.m := by omega
    rw [e]
    simp only [b2i]
    by_cases ha : x.a = v <;> by_cases hb : x.b = v
    · simp [ha, hb]; omega
    · simp [ha, hb]; rw [if_neg (fun h => hb h.symm)]; omega
    · simp [ha, hb]; omega
    · simp [ha, hb]
theorem cnt_sum {n : Nat} {es : List E} (hd : distinctE es) (hr : ∀ x, x ∈ es → 0 ≤ x.a ∧ x.a ≤ x.b ∧ x.b < n) (v : Int) :
    sumR (fun u => cntL es (min v u) (max v u)) n = valL v es + cntL es v v := by
  induction es with
  | nil => simp only [cntL, valL]; rw [sumR_zero fun _ _ => rfl]; rfl
  | cons x xs ih =>
    have h1 := hr x (by simp)
    have h2 := ih (List.pairwise_cons.1 hd).2 fun y hy => hr y (by simp [hy])
    have h3 : sumR (fun u => cntL (x :: xs) (min v u) (max v u)) n = sumR (fun u => if x.a = min v (u : Int) ∧ x.b = max v (u : Int) then x.m else 0) n + sumR (fun u => cntL xs (min v u) (max v u)) n := by
      rw [← sumR_add]; exact sumR_congr fun i _ => cntL_cons hd _ _
    rw [h3, h2, cntL_cons hd, valL]
    by_cases ha : x.a = v
    · have h4 : sumR (fun u => if x.a = min v (u : Int) ∧ x.b = max v (u : Int) then x.m else 0) n = x.m := by
        rw [sumR_congr (g := fun u => if (u : Int) = x.b then x.m else 0), sumR_one (by omega) (by omega)]
        intro i _
        by_cases hi : (i : Int) = x.b
        · rw [if_pos hi, if_pos (by omega)]
        · rw [if_neg hi, if_neg (by omega)]
      rw [h4]
      by_cases hb : x.b = v
      · rw [if_neg (by omega), if_pos (by omega)]; omega
      · rw [if_pos (by omega), if_neg (by omega)]; omega
    · by_cases hb : x.b = v
      · have h4 : sumR (fun u => if x.a = min v (u : Int) ∧ x.b = max v (u : Int) then x.m else 0) n = x.m := by
          rw [sumR_congr (g := fun u => if (u : Int) = x.a then x.m else 0), sumR_one (by omega) (by omega)]
          intro i _
          by_cases hi : (i : Int) = x.a
          · rw [if_pos hi, if_pos (by omega)]
          · rw [if_neg hi, if_neg (by omega)]
        rw [h4, if_pos (by omega), if_neg (by omega)]; omega
      · rw [sumR_zero fun i _ => if_neg (by omega), if_neg (by omega), if_neg (by omega)]; omega
theorem deg_sum {n : Nat} {l : List (Int × Int)} (hr : ∀ p, p ∈ l → (0 ≤ p.1 ∧ p.1 < n) ∧ (0 ≤ p.2 ∧ p.2 < n)) : sumR (fun v => degL v l) n = 2 * l.length := by
  induction l with
  | nil => simp only [degL]; rw [sumR_zero fun _ _ => rfl]; rfl
  | cons p l ih =>
    have h1 := hr p (by simp)
    have h2 := ih fun q hq => hr q (by simp [hq])
    have h3 : sumR (fun v => degL v (p :: l)) n = sumR (fun v => if (v : Int) = p.1 then 1 else 0) n + sumR (fun v => if (v : Int) = p.2 then 1 else 0) n + sumR (fun v => degL v l) n := by
      rw [← sumR_add, ← sumR_add]
      refine sumR_congr fun i _ => ?_
      simp only [degL, b2i]
      congr 1
      congr 1
      · by_cases e : p.1 = (i : Int)
        · rw [if_pos e, if_pos e.symm]
        · rw [if_neg e, if_neg fun h => e h.symm]
      · by_cases e : p.2 = (i : Int)
        · rw [if_pos e, if_pos e.symm]
        · rw [if_neg e, if_neg fun h => e h.symm]
    rw [h3, h2, sumR_one h1.1.1 h1.1.2, sumR_one h1.2.1 h1.2.2, List.length_cons]
    omega
theorem handshake {g : G} {n : Nat} (hc : checkG g = 0) (hn : g.n = n) :
    sumR (fun v => valL v g.es + 2 * cntL g.es v v) n = 2 * (endsL g.es).length ∧
    (∀ v : Int, degL v (endsL g.es) = valL v g.es + 2 * cntL g.es v v) ∧
    (∀ v : Int, sumR (fun u => cntL g.es (min v u) (max v u)) n = valL v g.es + cntL g.es v v) := by
  obtain ⟨h1, h2, h3⟩ := checkG_zero.1 hc
  have hd := distinct_of h3
  have hv : ∀ v : Int, degL v (endsL g.es) = valL v g.es + 2 * cntL g.es v v := degL_val hd fun x hx => by have := h2 x hx; unfold okE at this; omega
  refine ⟨?_, hv, fun v => cnt_sum hd (fun x hx => by have := h2 x hx; unfold okE at this; omega) v⟩
  rw [← deg_sum (n := n) (l := endsL g.es)]
  · exact sumR_congr fun i _ => (hv _).symm
  · intro p hp
    obtain ⟨e, he, hx⟩ := List.mem_flatMap.1 hp
    obtain rfl := List.eq_of_mem_replicate hx
    have := h2 e he
    unfold okE at this
    simp only; omega
end Go.Proofs.YtfkegnhpihoncaaGreat
set_option linter.all false
namespace Go.Proofs.YtfkegnhpihoncaaGreat
open Go.Sp
set_option linter.unusedSimpArgs false
set_option linter.unusedVariables false
def inL (p : Int → Bool) (n : Nat) : List Int := ((List.range n).map fun (i : Nat) => (i : Int)).filter p
def renE (F : Int → Int) (x : E) : E := ⟨F x.a, F x.b, x.m⟩
def bothE (F : Int → Int) (x : E) : Bool := decide (0 ≤ F x.a ∧ 0 ≤ F x.b)
def MonoF (F : Int → Int) : Prop := ∀ u v, 0 ≤ F u → 0 ≤ F v → u < v → F u < F v
def sepN (q : Int → Bool) : List (Int × Int) → Int
  | [] => 0
  | p :: l => (if q p.1 = q p.2 then 0 else 1) + sepN q l
def bothN (q : Int → Bool) : List (Int × Int) → Int
  | [] => 0
  | p :: l => (if q p.1 = true ∧ q p.2 = true then 1 else 0) + bothN q l
end Go.Proofs.YtfkegnhpihoncaaGreat
set_option linter.all false
namespace Go.Proofs.YtfkegnhpihoncaaGreat
open Go.Sp
set_option linter.unusedSimpArgs false
set_option linter.unusedVariables false
def piF (l : List Int) (v : Int) : Int := l.getD v.toNat 0
theorem piF_get {l : List Int} {v : Int} (h : 0 ≤ v ∧ v < l.length) : l[v.toNat]? = some (piF l v) := by
  unfold piF; rw [List.getD_eq_getElem?_getD, List.getElem?_eq_getElem (by omega)]; rfl
structure PermL (n : Nat) (l : List Int) : Prop where
  len : l.length = n
  rng : ∀ x, x ∈ l → 0 ≤ x ∧ x < n
  nd : l.Nodup
theorem PermL.inj {n : Nat} {l : List Int} (h : PermL n l) {u v : Int} (hu : 0 ≤ u ∧ u < n) (hv : 0 ≤ v ∧ v < n) (e : piF l u = piF l v) : u = v := by
  have h1 := piF_get (l := l) (v := u) (by rw [h.len]; exact hu)
  have h2 := piF_get (l := l) (v := v) (by rw [h.len]; exact hv)
  obtain ⟨q1, e1⟩ := List.getElem?_eq_some_iff.1 h1
  obtain ⟨q2, e2⟩ := List.getElem?_eq_some_iff.1 h2
  have hp := List.pairwise_iff_getElem.1 h.nd
  rcases Nat.lt_trichotomy u.toNat v.toNat with h3 | h3 | h3
  · exact absurd (e1.trans (e.trans e2.symm)) (hp _ _ q1 q2 h3)
  · omega
  · exact absurd (e2.trans (e.symm.trans e1.symm)) (hp _ _ q2 q1 h3)
def backN (l : List Int) (n k : Nat) : List Int := (List.range k).foldl (fun B i => B.set (piF l (i : Nat)).toNat ((i : Nat) : Int)) (List.replicate n 0)
def nrm (F : Int → Int) (x : E) : E := ⟨min (F x.a) (F x.b), max (F x.a) (F x.b), x.m⟩
structure Ren (g h : G) (n : Nat) (F : Int → Int) : Prop where
  c : checkG g = 0
  nn : g.n = n
  c' : checkG h = 0
  nn' : h.n = n
  rng : ∀ v : Int, 0 ≤ v ∧ v < n → 0 ≤ F v ∧ F v < n
  inj : ∀ u v : Int, 0 ≤ u ∧ u < n → 0 ≤ v ∧ v < n → F u = F v → u = v
  perm : h.es.Perm (g.es.map (nrm F))
end Go.Proofs.YtfkegnhpihoncaaGreat
set_option linter.all false
namespace Go.Proofs.YtfkegnhpihoncaaGreat
open Go.Sp
set_option linter.unusedSimpArgs false
set_option linter.unusedVariables false
theorem rootsN_filter (F : List Nat) (k : Nat) : rootsN F k = ((List.range k).filter fun v => decide (F[v]? = some v)).length := by
  induction k with
  | zero => rfl
  | succ k ih =>
    simp only [rootsN]
    rw [ih, List.range_succ, List.filter_append, List.length_append]
    by_cases h : F[k]? = some k <;> simp [h]
end Go.Proofs.YtfkegnhpihoncaaGreat
