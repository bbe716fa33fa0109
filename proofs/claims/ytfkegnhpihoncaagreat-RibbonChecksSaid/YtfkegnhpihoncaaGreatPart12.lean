/- A part of the proof: contracts of functions of the program, and plain lemmas. -/
import Derived.Test.YtfkegnhpihoncaaGreatPart10
import Derived.Test.YtfkegnhpihoncaaGreatPart11
import Derived.Test.YtfkegnhpihoncaaGreatLayerC
import Derived.Test.YtfkegnhpihoncaaGreatPart08
set_option linter.all false
namespace Go.Proofs.YtfkegnhpihoncaaGreat
open Go.Sp
set_option linter.unusedSimpArgs false
set_option linter.unusedVariables false
def atL (L : List (Int × Int)) (h : Nat) : Int := if h % 2 = 0 then (L.getD (h / 2) (0, 0)).1 else (L.getD (h / 2) (0, 0)).2
def ownL (L : List (Int × Int)) (v : Int) (k : Nat) : List Int := ((List.range k).filter fun h => decide (atL L h = v)).map fun h : Nat => (h : Int)
def halvesL (L : List (Int × Int)) (n k : Nat) : List (List Int) := (List.range n).map fun v : Nat => ownL L (v : Int) k
theorem ownL_succ (L : List (Int × Int)) (v : Int) (k : Nat) : ownL L v (k + 1) = if atL L k = v then ownL L v k ++ [(k : Int)] else ownL L v k := by
  unfold ownL
  rw [List.range_succ, List.filter_append]
  by_cases h : atL L k = v <;> simp [h]
theorem ownL_mem {L : List (Int × Int)} {v : Int} {k : Nat} {x : Int} : x ∈ ownL L v k ↔ 0 ≤ x ∧ x < k ∧ atL L x.toNat = v := by
  unfold ownL
  rw [List.mem_map]
  constructor
  · rintro ⟨h, hm, rfl⟩
    rw [List.mem_filter, List.mem_range, decide_eq_true_eq] at hm
    exact ⟨by omega, by omega, by simpa using hm.2⟩
  · rintro ⟨h1, h2, h3⟩
    refine ⟨x.toNat, ?_, by omega⟩
    rw [List.mem_filter, List.mem_range, decide_eq_true_eq]
    exact ⟨by omega, h3⟩
theorem ownL_sorted (L : List (Int × Int)) (v : Int) (k : Nat) : (ownL L v k).Pairwise (· < ·) := by
  unfold ownL
  rw [List.pairwise_map]
  exact (List.pairwise_lt_range.filter _).imp fun h => by omega
theorem ownL_len (L : List (Int × Int)) (v : Int) (k : Nat) : (ownL L v k).length ≤ k := by
  unfold ownL
  rw [List.length_map]
  exact Nat.le_trans (List.length_filter_le _ _) (by simp)
theorem halvesL_len (L : List (Int × Int)) (n k : Nat) : (halvesL L n k).length = n := by simp [halvesL]
theorem halvesL_get {L : List (Int × Int)} {n k v : Nat} (hv : v < n) : (halvesL L n k)[v]? = some (ownL L (v : Int) k) := by simp [halvesL, hv]
theorem halvesL_zero (L : List (Int × Int)) (n : Nat) : List.replicate n [] = halvesL L n 0 := by
  rw [halvesL, eq_comm, List.eq_replicate_iff]
  exact ⟨by simp, fun x hx => by obtain ⟨_, _, rfl⟩ := List.mem_map.1 hx; rfl⟩
theorem halvesL_succ {L : List (Int × Int)} {n k v : Nat} (hv : v < n) (h : atL L k = v) : halvesL L n (k + 1) = (halvesL L n k).set v (ownL L (v : Int) k ++ [(k : Int)]) := by
  apply List.ext_getElem?
  intro i
  by_cases hi : i < n
  · rw [halvesL_get hi, ownL_succ]
    by_cases e : v = i
    · subst e
      rw [List.getElem?_set_self (by rw [halvesL_len]; exact hv), if_pos h]
    · rw [List.getElem?_set_ne e, halvesL_get hi, if_neg (by omega)]
  · rw [List.getElem?_eq_none (by rw [halvesL_len]; omega), List.getElem?_eq_none (by rw [List.length_set, halvesL_len]; omega)]
def lstGo (own : List Int) : List Int → List Int → Int
  | _, [] => 0
  | pre, h :: t => if h ∈ own then (if h ∈ pre then 7 else lstGo own (pre ++ [h]) t) else 2
def lstErr (l own : List Int) : Int :=
  if l.length ≠ own.length then 8 else if lstGo own [] l ≠ 0 then lstGo own [] l else if l ≠ [] ∧ l.getD 0 0 ≠ own.getD 0 0 then 9 else 0
def chkGo (L : List (Int × Int)) (N : Nat) : Nat → List (List Int) → Int
  | _, [] => 0
  | v, l :: ar => if lstErr l (ownL L (v : Int) N) ≠ 0 then lstErr l (ownL L (v : Int) N) else chkGo L N (v + 1) ar
theorem lstGo_zero {own : List Int} : ∀ {pre l : List Int}, lstGo own pre l = 0 → (∀ x, x ∈ l → x ∈ own) ∧ l.Nodup ∧ ∀ x, x ∈ l → x ∉ pre
  | _, [], _ => ⟨fun x hx => (by cases hx), List.nodup_nil, fun x hx => (by cases hx)⟩
  | pre, h :: t, e => by
    simp only [lstGo] at e
    split at e
    · rename_i h1
      split at e
      · omega
      · rename_i h2
        obtain ⟨q1, q2, q3⟩ := lstGo_zero e
        refine ⟨fun x hx => ?_, List.nodup_cons.2 ⟨fun hm => q3 h hm (by simp), q2⟩, fun x hx => ?_⟩
        · rcases List.mem_cons.1 hx with rfl | hx
          · exact h1
          · exact q1 x hx
        · rcases List.mem_cons.1 hx with rfl | hx
          · exact h2
          · intro hp; exact q3 x hx (by simp [hp])
    · omega
structure LOk (l own : List Int) : Prop where
  nd : l.Nodup
  sub : ∀ x, x ∈ l → x ∈ own
  sup : ∀ x, x ∈ own → x ∈ l
  len : l.length = own.length
  hd : l = [] ∨ l.getD 0 0 = own.getD 0 0
theorem sup_of {l own : List Int} (h1 : l.Nodup) (h2 : ∀ x, x ∈ l → x ∈ own) (h3 : l.length = own.length) : ∀ x, x ∈ own → x ∈ l := by
  intro x hx
  apply Classical.byContradiction
  intro hn
  have := List.Nodup.length_le_of_subset (l₁ := x :: l) (l₂ := own) (List.nodup_cons.2 ⟨hn, h1⟩) (fun y hy => by
    rcases List.mem_cons.1 hy with rfl | hy
    · exact hx
    · exact h2 y hy)
  simp at this; omega
theorem lstErr_zero {l own : List Int} (h : lstErr l own = 0) : LOk l own := by
  unfold lstErr at h
  split at h
  · omega
  · rename_i h1
    split at h
    · omega
    · rename_i h2
      split at h
      · omega
      · rename_i h3
        simp only [ne_eq, Decidable.not_not] at h1 h2
        obtain ⟨q1, q2, _⟩ := lstGo_zero h2
        refine ⟨q2, q1, sup_of q2 q1 h1, h1, ?_⟩
        by_cases e : l = []
        · exact .inl e
        · exact .inr (Classical.byContradiction fun hn => h3 ⟨e, hn⟩)
theorem chkGo_zero {L : List (Int × Int)} {N : Nat} : ∀ {v : Nat} {ar : List (List Int)}, chkGo L N v ar = 0 → ∀ i l, ar[i]? = some l → LOk l (ownL L ((v + i : Nat) : Int) N)
  | v, [], _, i, l, hl => by simp at hl
  | v, x :: ar, h, i, l, hl => by
    simp only [chkGo] at h
    split at h
    · omega
    · rename_i h1
      simp only [ne_eq, Decidable.not_not] at h1
      cases i with
      | zero => simp at hl; subst hl; exact lstErr_zero h1
      | succ i =>
        have := chkGo_zero h i l (by simpa using hl)
        rwa [show v + 1 + i = v + (i + 1) by omega] at this
def oppH (h : Nat) : Nat := h + 1 - 2 * (h % 2)
def nextI (l : List Int) (x : Int) : Int := l.getD ((l.idxOf x + 1) % l.length) 0
def nextR (L : List (Int × Int)) (ar : List (List Int)) (h : Nat) : Int := nextI (ar.getD (atL L h).toNat []) (h : Int)
def fR (L : List (Int × Int)) (ar : List (List Int)) (h : Nat) : Nat := (nextR L ar (oppH h)).toNat
theorem oppH_lt {m h : Nat} (hh : h < 2 * m) : oppH h < 2 * m := by unfold oppH; omega
theorem oppH_opp (h : Nat) : oppH (oppH h) = h := by unfold oppH; omega
theorem nodup_at {α : Type} {l : List α} (hn : l.Nodup) {i j : Nat} (hi : i < l.length) (hj : j < l.length) (e : l[i] = l[j]) : i = j := by
  rw [List.Nodup, List.pairwise_iff_getElem] at hn
  rcases Nat.lt_trichotomy i j with h | h | h
  · exact absurd e (hn i j hi hj h)
  · exact h
  · exact absurd e.symm (hn j i hj hi h)
theorem getD_idx {l : List Int} {x : Int} (hx : x ∈ l) : l.idxOf x < l.length ∧ l[l.idxOf x]? = some x := by
  have h := List.idxOf_lt_length_of_mem hx
  exact ⟨h, by rw [List.getElem?_eq_getElem h, List.getElem_idxOf h]⟩
theorem nextI_mem {l : List Int} {x : Int} (hx : x ∈ l) : nextI l x ∈ l := by
  have h := (getD_idx hx).1
  unfold nextI
  rw [List.getD_eq_getElem?_getD, List.getElem?_eq_getElem (Nat.mod_lt _ (by omega))]
  exact List.getElem_mem _
theorem nextI_inj {l : List Int} (hn : l.Nodup) {x y : Int} (hx : x ∈ l) (hy : y ∈ l) (e : nextI l x = nextI l y) : x = y := by
  obtain ⟨h1, h2⟩ := getD_idx hx
  obtain ⟨h3, h4⟩ := getD_idx hy
  have m1 : (l.idxOf x + 1) % l.length < l.length := Nat.mod_lt _ (by omega)
  have m2 : (l.idxOf y + 1) % l.length < l.length := Nat.mod_lt _ (by omega)
  unfold nextI at e
  rw [List.getD_eq_getElem?_getD, List.getElem?_eq_getElem m1, List.getD_eq_getElem?_getD, List.getElem?_eq_getElem m2] at e
  simp only [Option.getD_some] at e
  have e2 := nodup_at hn m1 m2 e
  have key : ∀ a b c : Nat, a < c → b < c → (a + 1) % c = (b + 1) % c → a = b := fun a b c ha hb hab => by
    by_cases q1 : a + 1 = c
    · by_cases q2 : b + 1 = c
      · omega
      · rw [q1, Nat.mod_self, Nat.mod_eq_of_lt (by omega)] at hab; omega
    · by_cases q2 : b + 1 = c
      · rw [q2, Nat.mod_self, Nat.mod_eq_of_lt (by omega)] at hab; omega
      · rw [Nat.mod_eq_of_lt (by omega), Nat.mod_eq_of_lt (by omega)] at hab; omega
  have e3 := key _ _ _ h1 h3 e2
  rw [← Option.some.injEq, ← h2, ← h4, e3]
end Go.Proofs.YtfkegnhpihoncaaGreat
set_option linter.all false
namespace Go.Proofs.YtfkegnhpihoncaaGreat
open Go.Sp
set_option linter.unusedSimpArgs false
set_option linter.unusedVariables false
def connB (g : G) : Bool := decide (partsN g.es g.n.toNat g.n.toNat = 1)
def joinedE (g : G) : Int := if checkG g ≠ 0 then checkG g else if connB g = true then 0 else 13
def ribE (r : R) : Int := if joinedE r.g ≠ 0 then joinedE r.g else if (r.ar.length : Int) ≠ r.n then 8 else chkGo (endsL r.es) (2 * (endsL r.es).length) 0 r.ar
structure ROk (r : R) : Prop where
  c : checkG r.g = 0
  conn : connB r.g = true
  len : (r.ar.length : Int) = r.n
  l : ∀ (i : Nat) l, r.ar[i]? = some l → LOk l (ownL (endsL r.es) (i : Int) (2 * (endsL r.es).length))
theorem rok_of {r : R} (h : ribE r = 0) : ROk r := by
  unfold ribE joinedE at h
  by_cases h1 : checkG r.g ≠ 0
  · simp only [if_pos h1] at h; omega
  · rw [if_neg h1] at h
    by_cases h2 : connB r.g = true
    · rw [if_pos h2] at h
      by_cases h3 : (r.ar.length : Int) ≠ r.n
      · rw [if_neg (by omega), if_pos h3] at h; omega
      · rw [if_neg (by omega), if_neg h3] at h
        exact ⟨by omega, h2, by omega, fun i l hl => by have := chkGo_zero h i l hl; rwa [Nat.zero_add] at this⟩
    · rw [if_neg h2] at h; omega
section
variable {r : R}
theorem atL_range (hc : checkG r.g = 0) {h : Nat} (hh : h < 2 * (endsL r.es).length) : 0 ≤ atL (endsL r.es) h ∧ atL (endsL r.es) h < r.n := by
  have hm : h / 2 < (endsL r.es).length := by omega
  have he := ends_range hc (List.getElem_mem (l := endsL r.g.es) hm)
  unfold atL
  rw [List.getD_eq_getElem?_getD, List.getElem?_eq_getElem hm]
  simp only [Option.getD_some]
  split
  · exact he.1
  · exact he.2
theorem ROk.row (hr : ROk r) {h : Nat} (hh : h < 2 * (endsL r.es).length) : ∃ l, r.ar[(atL (endsL r.es) h).toNat]? = some l ∧ r.ar.getD (atL (endsL r.es) h).toNat [] = l ∧ LOk l (ownL (endsL r.es) (atL (endsL r.es) h) (2 * (endsL r.es).length)) ∧ (h : Int) ∈ l := by
  have ha := atL_range hr.c hh
  have hlt : (atL (endsL r.es) h).toNat < r.ar.length := by have := hr.len; omega
  have e := List.getElem?_eq_getElem hlt
  have hl := hr.l _ _ e
  rw [show (((atL (endsL r.es) h).toNat : Nat) : Int) = atL (endsL r.es) h by omega] at hl
  refine ⟨_, e, by rw [List.getD_eq_getElem?_getD, e]; rfl, hl, hl.sup _ (ownL_mem.2 ⟨by omega, by omega, by simp⟩)⟩
theorem ROk.next (hr : ROk r) {h : Nat} (hh : h < 2 * (endsL r.es).length) : 0 ≤ nextR (endsL r.es) r.ar h ∧ nextR (endsL r.es) r.ar h < (2 * (endsL r.es).length : Nat) ∧ atL (endsL r.es) (nextR (endsL r.es) r.ar h).toNat = atL (endsL r.es) h := by
  obtain ⟨l, h1, h2, h3, h4⟩ := hr.row hh
  unfold nextR
  rw [h2]
  exact ownL_mem.1 (h3.sub _ (nextI_mem h4))
theorem ROk.next_inj (hr : ROk r) {h k : Nat} (hh : h < 2 * (endsL r.es).length) (hk : k < 2 * (endsL r.es).length) (e : nextR (endsL r.es) r.ar h = nextR (endsL r.es) r.ar k) : h = k := by
  have a1 := (hr.next hh).2.2
  have a2 := (hr.next hk).2.2
  rw [e] at a1
  have a3 := a1.symm.trans a2
  obtain ⟨l, h1, h2, h3, h4⟩ := hr.row hh
  obtain ⟨l', h1', h2', h3', h4'⟩ := hr.row hk
  rw [a3, h1'] at h1
  cases h1
  unfold nextR at e
  rw [h2, h2'] at e
  have := nextI_inj h3.nd h4 h4' e
  omega
theorem ROk.perm (hr : ROk r) : PermN (2 * (endsL r.es).length) (fR (endsL r.es) r.ar) := by
  refine ⟨fun x hx => ?_, fun x y hx hy e => ?_⟩
  · have := hr.next (oppH_lt hx)
    unfold fR; omega
  · have h1 := hr.next (oppH_lt hx)
    have h2 := hr.next (oppH_lt hy)
    unfold fR at e
    have := hr.next_inj (oppH_lt hx) (oppH_lt hy) (by omega)
    rw [← oppH_opp x, this, oppH_opp]
end
end Go.Proofs.YtfkegnhpihoncaaGreat
set_option linter.all false
namespace Go.Proofs.YtfkegnhpihoncaaGreat
open Go.Sp
set_option linter.unusedSimpArgs false
set_option linter.unusedVariables false
set_option maxHeartbeats 4000000
set_option maxRecDepth 100000
theorem pairs_mem {g : G} (hc : checkG g = 0) (p : Int × Int) : p ∈ pairsE g.es ↔ p ∈ endsL g.es := by
  constructor
  · intro h
    obtain ⟨e, he, rfl⟩ := List.mem_map.1 h
    have := (checkG_zero.1 hc).2.1 e he
    unfold okE at this
    exact List.mem_flatMap.2 ⟨e, he, List.mem_replicate.2 ⟨by omega, rfl⟩⟩
  · intro h
    obtain ⟨e, he, rfl⟩ := endsL_mem h
    exact List.mem_map.2 ⟨e, he, rfl⟩
theorem roots_count {F : List Nat} (hF : FOk F) : ∀ n, n ≤ 12 → rootsN F n = (rootsL F n).length := by
  intro n
  induction n with
  | zero => intro _; rfl
  | succ n ih =>
    intro hn
    rw [rootsL_succ]
    simp only [rootsN, ih (by omega)]
    by_cases h : rootF F 12 n = n
    · rw [if_pos h, if_pos ((root_iff hF (by omega)).1 h)]; simp
    · rw [if_neg h, if_neg (fun e => h ((root_iff hF (by omega)).2 e))]; simp
theorem roots_same {l m : List (Int × Int)} (hl : In12 l) (hm : In12 m) (h : ∀ p, p ∈ l ↔ p ∈ m) : ∀ n, n ≤ 12 → rootsN (genS l).1 n = rootsN (genS m).1 n := by
  intro n
  induction n with
  | zero => intro _; rfl
  | succ n ih =>
    intro hn
    simp only [rootsN, ih (by omega)]
    have h1 := isRoot_iff hl (v := n) (by omega)
    have h2 := isRoot_iff hm (v := n) (by omega)
    have h3 : (∃ u, u < n ∧ Conn l u n) ↔ (∃ u, u < n ∧ Conn m u n) :=
      ⟨fun ⟨u, h4, h5⟩ => ⟨u, h4, h5.mono fun p hp => (h p).1 hp⟩, fun ⟨u, h4, h5⟩ => ⟨u, h4, h5.mono fun p hp => (h p).2 hp⟩⟩
    by_cases e : (genS l).1[n]? = some n
    · rw [if_pos e, if_pos (h2.2 fun x => h1.1 e (h3.2 x))]
    · rw [if_neg e, if_neg (fun x => e (h1.2 fun y => h2.1 x (h3.1 y)))]
theorem cparts_count {g : G} {n : Nat} (hc : checkG g = 0) (hn : g.n = n) : (partsV (genS (pairsE g.es)).1 n).length = partsN g.es n n := by
  have h12 := (checkG_zero.1 hc).1
  have hp := pairs_in12 hc
  have he : In12 (endsL g.es) := fun p h => hp p ((pairs_mem hc p).2 h)
  have h1 := parts_roots hc hn n (Nat.le_refl _)
  have h2 := roots_same hp he (pairs_mem hc) n (by omega)
  have h3 := roots_count (uf _ hp).ok n (by omega)
  rw [partsV_len]; omega
theorem Components_ok (g : G) (hl : g.es.length < 2 ^ 30) : ACall Tryz.prog 145 [tG g] (.tup [tlists (if checkG g ≠ 0 then [] else partsV (genS (pairsE g.es)).1 g.n.toNat), tint (checkG g)]) := by
  have hC := Check_ok g (by omega)
  by_cases hc : checkG g = 0
  · have hJ := cjoined_ok g hc hl
    have hF := (uf _ (pairs_in12 hc)).ok
    have h12 := (checkG_zero.1 hc).1
    rw [if_neg (by omega), hc]
    rw [hc] at hC
    have hlF := hF.len
    unfold tF at hJ
    obtain ⟨n, es⟩ := g
    simp only at hJ h12 ⊢
    generalize (genS (pairsE es)).1 = F at *
    have hP3 := cparts_ok F hF n.toNat (by omega) (by omega) [.int .i64 n, .slice (eRows es) .none] (fun m _ c hc => by
      simp only [List.mem_cons, List.not_mem_nil, or_false] at hc
      rcases hc with rfl | rfl <;> exact True.intro) (fun c hc => by
      simp only [List.mem_cons, List.not_mem_nil, or_false] at hc
      rcases hc with rfl | rfl <;> rfl)
    rw [show ((n.toNat : Nat) : Int) = n by omega] at hP3
    generalize partsV F n.toNat = ps at *
    have hof : (fT F).map ofTree = fC F := fT_of F
    have hst := fC_store zero12 F (by rw [hlF]; rfl)
    have hz : fC zero12 = [.int .i64 0, .int .i64 0, .int .i64 0, .int .i64 0, .int .i64 0, .int .i64 0, .int .i64 0, .int .i64 0, .int .i64 0, .int .i64 0, .int .i64 0, .int .i64 0] := rfl
    rw [hz] at hst
    refine ACall.of_body Tryz.func145 rfl (by kernel_rfl) ?_
    simp only [entry, Tryz.ntmps145, tG]
    refine zU ?_
    repeat' (first|((first|(refine zT ?_;intro K' hK')|(refine zG ?_ ?_<;>(try refine zH ?_)<;>intro hguard<;>(try exact zX)<;>try intro K' hK'))<;>((try simp +contextual only [go_sem, fC_len, fC_free, hof, hst, hlF]);(repeat' first|(with_reducible refine hK' _ _ ?_;clear hK' K')|((with_reducible first|refine zK hC ?_|refine zK hJ ?_|refine ⟨_,_,hP3,?_⟩|refine ⟨_,hP3,?_⟩);try simp +contextual only [go_sem, fC_len, fC_free, hof, hst, hlF])|exact zY|with_reducible refine And.intro ?_ ?_|(with_reducible intro hpath;try exact zP)|(refine hK' _ _ ?_;clear hK' K')|fail);try refine zS ?_))|(refine zE ?_;refine hK _ _ ?_;clear hK K)|(refine zN ?_;try refine zS ?_)|refine zA ?_|(refine zB ?_;intro K hK)|(refine zC ?_ ?_<;>(try refine zH ?_)<;>intro hcond<;>try exact zX)|fail)
    simp [Rets, aret, Blk.cells, ty, Tryz.results145, ares, toT1, toT, borrow, borrow0, capCell, toTree0, tint, tlists]
  · rw [if_pos hc]
    generalize checkG g = E at *
    obtain ⟨n, es⟩ := g
    refine ACall.of_body Tryz.func145 rfl (by kernel_rfl) ?_
    simp only [entry, Tryz.ntmps145, tG]
    refine zU ?_
    refine zR (zc @hc trivial) (zc hC trivial) trivial ?_
    simp [Rets, aret, Blk.cells, ty, Tryz.results145, ares, toT1, toT, borrow, borrow0, capCell, toTree0, tint, tlists, llRows]
theorem Connected_ok (g : G) (hl : g.es.length < 2 ^ 30) : ACall Tryz.prog 109 [tG g] (.tup [tbool (decide (checkG g = 0) && connB g), tint (checkG g)]) := by
  have hC := Components_ok g hl
  by_cases hc : checkG g = 0
  · have h12 := (checkG_zero.1 hc).1
    have hcnt := cparts_count (n := g.n.toNat) hc (by omega)
    rw [if_neg (by omega)] at hC
    have hb : (decide (checkG g = 0) && connB g) = decide (((partsV (genS (pairsE g.es)).1 g.n.toNat).length : Int) = 1) := by
      rw [decide_eq_true hc, Bool.true_and]
      unfold connB
      rw [← hcnt]
      exact decide_eq_decide.2 (by omega)
    rw [hb]
    generalize partsV (genS (pairsE g.es)).1 g.n.toNat = ps at *
    generalize checkG g = E at *
    obtain ⟨n, es⟩ := g
    refine ACall.of_body Tryz.func109 rfl (by kernel_rfl) ?_
    simp only [entry, Tryz.ntmps109, tG]
    refine zU ?_
    refine zR (zc @llRows_len trivial) (zc hC trivial) trivial ?_
    simp [Rets, aret, Blk.cells, ty, Tryz.results109, ares, toT1, toT, borrow, borrow0, capCell, toTree0, tint, tbool]
  · rw [if_pos hc] at hC
    rw [decide_eq_false hc, Bool.false_and]
    generalize checkG g = E at *
    obtain ⟨n, es⟩ := g
    refine ACall.of_body Tryz.func109 rfl (by kernel_rfl) ?_
    simp only [entry, Tryz.ntmps109, tG]
    refine zU ?_
    refine zR (zc @llRows_len trivial) (zc hC trivial) trivial ?_
    simp [Rets, aret, Blk.cells, ty, Tryz.results109, ares, toT1, toT, borrow, borrow0, capCell, toTree0, tint, tbool]
end Go.Proofs.YtfkegnhpihoncaaGreat
set_option linter.all false
namespace Go.Proofs.YtfkegnhpihoncaaGreat
open Go.Sp
set_option linter.unusedSimpArgs false
set_option linter.unusedVariables false
set_option maxHeartbeats 4000000
set_option maxRecDepth 100000
theorem tdiv2 (h : Nat) : Int.tdiv (h : Int) 2 = ((h / 2 : Nat) : Int) := rfl
theorem tmod2 (h : Nat) : Int.tmod (h : Int) 2 = ((h % 2 : Nat) : Int) := rfl
theorem atH_ok (L : List (Int × Int)) (h : Nat) (hh : h < 2 * L.length) (hl : L.length < 2 ^ 30) : ACall Tryz.prog 71 [tpairs L, tint h] (tint (atL L h)) := by
  have e0 : L[h / 2]? = some L[h / 2] := List.getElem?_eq_getElem (by omega)
  have e1 := pRows_get e0
  have ea : atL L h = if h % 2 = 0 then L[h / 2].1 else L[h / 2].2 := by unfold atL; rw [List.getD_eq_getElem?_getD, e0]; rfl
  have hlt : ((h / 2 : Nat) : Int) < L.length := by omega
  rw [ea]
  generalize L[h / 2] = p at *
  obtain ⟨a, b⟩ := p
  refine ACall.of_body Tryz.func71 rfl (by kernel_rfl) ?_
  simp only [entry, Tryz.ntmps71, tpairs, tint]
  refine zU ?_
  have hm : h % 2 = 0 ∨ h % 2 = 1 := by omega
  rcases hm with hm | hm
  ·
    refine zR (zc @tdiv2 (zc @tmod2 (zc @hm (zc @hlt (zc @pRows_len (zc @e1 trivial)))))) trivial trivial ?_
    simp [Rets, aret, Blk.cells, ty, Tryz.results71, ares, toT1, toT, borrow, borrow0, capCell, toTree0, tint, hm]
  ·
    refine zR (zc @tdiv2 (zc @tmod2 (zc @hm (zc @hlt (zc @pRows_len (zc @e1 trivial)))))) trivial trivial ?_
    simp [Rets, aret, Blk.cells, ty, Tryz.results71, ares, toT1, toT, borrow, borrow0, capCell, toTree0, tint, hm]
@[simp] theorem chJ_halves (L : List (Int × Int)) (n k : Nat) : (chJ (halvesL L n k)).take n = chJ (halvesL L n k) := chJ_take (by rw [halvesL_len]; exact Nat.le_refl _)
theorem halves_ok (L : List (Int × Int)) (n : Nat) (hn : n < 2 ^ 20) (hl : L.length < 2 ^ 20) (hr : ∀ h, h < 2 * L.length → 0 ≤ atL L h ∧ atL L h < n) :
    ACall Tryz.prog 67 [tint n, tpairs L] (tlists (halvesL L n (2 * L.length))) := by
  refine ACall.of_body Tryz.func67 rfl (by kernel_rfl) ?_
  simp only [entry, Tryz.ntmps67, tpairs, tint]
  refine zU ?_
  repeat' (first|((first|(refine zT ?_;intro K' hK')|(refine zG ?_ ?_<;>(try refine zH ?_)<;>intro hguard<;>(try exact zX)<;>try intro K' hK'))<;>((try simp +contextual only [go_sem, made_nils, Int.toNat_natCast, Nat.mul_one, pRows_len, List.length_replicate]);(repeat' first|(with_reducible refine hK' _ _ ?_;clear hK' K')|exact zY|with_reducible refine And.intro ?_ ?_|(with_reducible intro hpath;try exact zP)|(refine hK' _ _ ?_;clear hK' K')|fail);try refine zS ?_))|(refine zE ?_;refine hK _ _ ?_;clear hK K)|(refine zN ?_;try refine zS ?_)|refine zA ?_|(refine zB ?_;intro K hK)|(refine zC ?_ ?_<;>(try refine zH ?_)<;>intro hcond<;>try exact zX)|fail)
  refine AWp.weak (Weak.openBs 0 n (pre := []) rfl (Nat.zero_le _)) ?_
  simp only [List.length_cons, List.length_nil, List.set_cons_zero, List.nil_append, List.cons_append, Nat.zero_add, chI_nil, chJ_nil, halvesL_zero L n]
  refine AWp.loopS (α:=Nat) 31 (fun k=>[(1,.c (.slice (pRows L) .none)),(5,.c (.ref 0 1 0 n n)),(11,.c (.int .i64 (2 * (L.length : Int)))),(12,.c (.int .i64 (k : Int)))]) (fun k=>.box (chI 1 (halvesL L n k)) :: chJ (halvesL L n k)) (fun k=>k ≤ 2 * L.length) (fun k=>2 * L.length - k) (0) (hk:=Weak.headL (n + 1) 31 [1, 5, 11, 12] (by (repeat' (first | exact valsIn_nil _ | exact blksIn_nil _ | exact cellsIn_nil _ | refine And.intro ?_ ?_ | refine valsIn_cons ?_ ?_ | refine blksIn_cons ?_ ?_ | refine cellsIn_cons ?_ ?_ | exact True.intro | exact chI_in (by rw [halvesL_len]; omega) | exact chJ_in | (show _ < _; omega) | exact cellsIn_map (fun _ => True.intro) | (intro c hc; cases hc; done) | (intro c hc; simp only [List.mem_cons, List.not_mem_nil, or_false] at hc; subst hc; exact True.intro) | (intro c hc; simp only [List.mem_cons, List.not_mem_nil, or_false] at hc; rcases hc with rfl | rfl <;> exact True.intro))))) (h0:=?_) (round:=fun k hI=>?_)
  · exact Nat.zero_le _
  · have hk : k ≤ 2 * L.length := hI
    clear hI
    by_cases hlt : k < 2 * L.length
    · have hltI : (k : Int) < 2 * (L.length : Int) := by omega
      have hat := hr k hlt
      have hA := atH_ok L k hlt (by omega)
      obtain ⟨v, hv⟩ : ∃ v : Nat, atL L k = v := ⟨(atL L k).toNat, by omega⟩
      have hvn : v < n := by omega
      have hvI : (v : Int) < n := by omega
      have hnx := halvesL_succ hvn hv
      have hg := halvesL_get (L := L) (k := k) hvn
      have hol := ownL_len L (v : Int) k
      have hll := halvesL_len L n k
      rw [hv] at hA
      generalize ownL L (v : Int) k = o at *
      have g1 := chI_get (b := 1) hg
      have g2 := chI_drop (b := 1) hg
      have g3 := chJ_get hg
      have g4 := chI_set 1 v (halvesL L n k) (o ++ [(k : Int)])
      have g5 := chJ_set v (halvesL L n k) (o ++ [(k : Int)]) (n := o.length + 1) (by simp)
      rw [← hnx] at g4 g5
      refine zRc (zc @hltI (zc @hvI (zc @pRows_len (zc @g1 (zc @g2 (zc @g3 (zc @g4 (zc @g5 (zc @chI_len (zc @chJ_len (zc @hll (zc @iRows_len (zc @iRows_snoc trivial))))))))))))) (zc hA trivial) @iRows_k' ?_
      refine ⟨k + 1,Weak.headN (n + 1) 31 [1, 5, 11, 12] (by (repeat' (first | exact valsIn_nil _ | exact blksIn_nil _ | exact cellsIn_nil _ | refine And.intro ?_ ?_ | refine valsIn_cons ?_ ?_ | refine blksIn_cons ?_ ?_ | refine cellsIn_cons ?_ ?_ | exact True.intro | exact chI_in (by rw [halvesL_len]; omega) | exact chJ_in | (show _ < _; omega) | exact cellsIn_map (fun _ => True.intro) | (intro c hc; cases hc; done) | (intro c hc; simp only [List.mem_cons, List.not_mem_nil, or_false] at hc; subst hc; exact True.intro) | (intro c hc; simp only [List.mem_cons, List.not_mem_nil, or_false] at hc; rcases hc with rfl | rfl <;> exact True.intro)))),?_,?_⟩
      · exact hlt
      · omega
    · have ek : k = 2 * L.length := by omega
      subst ek
      have hnl : ¬ (((2 * L.length : Nat) : Int) < 2 * (L.length : Int)) := by omega
      repeat' ((fail_if_success (with_reducible refine AWp.atSeq 7 ?_));(fail_if_success (with_reducible refine AWp.atLast 7 ?_));first|((first|(refine zT ?_;intro K' hK')|(refine zG ?_ ?_<;>(try refine zH ?_)<;>intro hguard<;>(try exact zX)<;>try intro K' hK'))<;>((try simp +contextual only [go_sem, hnl]);(repeat' first|(with_reducible refine hK' _ _ ?_;clear hK' K')|exact zY|with_reducible refine And.intro ?_ ?_|(with_reducible intro hpath;try exact zP)|(refine hK' _ _ ?_;clear hK' K')|fail);try refine zS ?_))|(refine zE ?_;refine hK _ _ ?_;clear hK K)|(refine zN ?_;try refine zS ?_)|refine zA ?_|(refine zB ?_;intro K hK)|(refine zC ?_ ?_<;>(try refine zH ?_)<;>intro hcond<;>try exact zX)|fail)
      refine AWp.boxData 5 0 1 ((halvesL L n (2 * L.length)).map iRows) rfl rfl (by rw [List.length_map, halvesL_len]) (Nat.le_refl _) ?_
      rw [chRows]
      simp only [List.set_cons_succ, List.set_cons_zero]
      refine zR trivial trivial trivial ?_
      simp [Rets, aret, Blk.cells, ty, Tryz.results67, ares, toT1, toT, borrow, borrow0, capCell, toTree0, tlists]
end Go.Proofs.YtfkegnhpihoncaaGreat
