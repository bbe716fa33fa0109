/- A part of the proof: contracts of functions of the program, and plain lemmas. -/
import Derived.Test.YtfkegnhpihoncaaGreatPart08
import Derived.Test.YtfkegnhpihoncaaGreatPart11
import Derived.Test.YtfkegnhpihoncaaGreatLayerC
set_option linter.all false
namespace Go.Proofs.YtfkegnhpihoncaaGreat
open Go.Sp
set_option linter.unusedSimpArgs false
set_option linter.unusedVariables false
def connB (g : G) : Bool := decide (partsN g.es g.n.toNat g.n.toNat = 1)
def joinedE (g : G) : Int := if checkG g ≠ 0 then checkG g else if connB g = true then 0 else 13
def ribE (r : R) : Int := if joinedE r.g ≠ 0 then joinedE r.g else if (r.ar.length : Int) ≠ r.n then 8 else chkGo (endsL r.es) (2 * (endsL r.es).length) 0 r.ar
structure ROk (r : R) : Prop where
  c : checkG r.g = 0
  conn : connB r.g = true
  len : (r.ar.length : Int) = r.n
  l : ∀ (i : Nat) l, r.ar[i]? = some l → LOk l (ownL (endsL r.es) (i : Int) (2 * (endsL r.es).length))
theorem rok_of {r : R} (h : ribE r = 0) : ROk r := by
  unfold ribE joinedE at h
  by_cases h1 : checkG r.g ≠ 0
  · simp only [if_pos h1] at h; omega
  · rw [if_neg h1] at h
    by_cases h2 : connB r.g = true
    · rw [if_pos h2] at h
      by_cases h3 : (r.ar.length : Int) ≠ r.n
      · rw [if_neg (by omega), if_pos h3] at h; omega
      · rw [if_neg (by omega), if_neg h3] at h
        exact ⟨by omega, h2, by omega, fun i l hl => by have := chkGo_zero h i l hl; rwa [Nat.zero_add] at this⟩
    · rw [if_neg h2] at h; omega
section
variable {r : R}
theorem atL_range (hc : checkG r.g = 0) {h : Nat} (hh : h < 2 * (endsL r.es).length) : 0 ≤ atL (endsL r.es) h ∧ atL (endsL r.es) h < r.n := by
  have hm : h / 2 < (endsL r.es).length := by omega
  have he := ends_range hc (List.getElem_mem (l := endsL r.g.es) hm)
  unfold atL
  rw [List.getD_eq_getElem?_getD, List.getElem?_eq_getElem hm]
  simp only [Option.getD_some]
  split
  · exact he.1
  · exact he.2
theorem ROk.row (hr : ROk r) {h : Nat} (hh : h < 2 * (endsL r.es).length) : ∃ l, r.ar[(atL (endsL r.es) h).toNat]? = some l ∧ r.ar.getD (atL (endsL r.es) h).toNat [] = l ∧ LOk l (ownL (endsL r.es) (atL (endsL r.es) h) (2 * (endsL r.es).length)) ∧ (h : Int) ∈ l := by
  have ha := atL_range hr.c hh
  have hlt : (atL (endsL r.es) h).toNat < r.ar.length := by have := hr.len; omega
  have e := List.getElem?_eq_getElem hlt
  have hl := hr.l _ _ e
  rw [show (((atL (endsL r.es) h).toNat : Nat) : Int) = atL (endsL r.es) h by omega] at hl
  refine ⟨_, e, by rw [List.getD_eq_getElem?_getD, e]; rfl, hl, hl.sup _ (ownL_mem.2 ⟨by omega, by omega, by simp⟩)⟩
theorem ROk.next (hr : ROk r) {h : Nat} (hh : h < 2 * (endsL r.es).length) : 0 ≤ nextR (endsL r.es) r.ar h ∧ nextR (endsL r.es) r.ar h < (2 * (endsL r.es).length : Nat) ∧ atL (endsL r.es) (nextR (endsL r.es) r.ar h).toNat = atL (endsL r.es) h := by
  obtain ⟨l, h1, h2, h3, h4⟩ := hr.row hh
  unfold nextR
  rw [h2]
  exact ownL_mem.1 (h3.sub _ (nextI_mem h4))
theorem ROk.next_inj (hr : ROk r) {h k : Nat} (hh : h < 2 * (endsL r.es).length) (hk : k < 2 * (endsL r.es).length) (e : nextR (endsL r.es) r.ar h = nextR (endsL r.es) r.ar k) : h = k := by
  have a1 := (hr.next hh).2.2
  have a2 := (hr.next hk).2.2
  rw [e] at a1
  have a3 := a1.symm.trans a2
  obtain ⟨l, h1, h2, h3, h4⟩ := hr.row hh
  obtain ⟨l', h1', h2', h3', h4'⟩ := hr.row hk
  rw [a3, h1'] at h1
  cases h1
  unfold nextR at e
  rw [h2, h2'] at e
  have := nextI_inj h3.nd h4 h4' e
  omega
theorem ROk.perm (hr : ROk r) : PermN (2 * (endsL r.es).length) (fR (endsL r.es) r.ar) := by
  refine ⟨fun x hx => ?_, fun x y hx hy e => ?_⟩
  · have := hr.next (oppH_lt hx)
    unfold fR; omega
  · have h1 := hr.next (oppH_lt hx)
    have h2 := hr.next (oppH_lt hy)
    unfold fR at e
    have := hr.next_inj (oppH_lt hx) (oppH_lt hy) (by omega)
    rw [← oppH_opp x, this, oppH_opp]
end
end Go.Proofs.YtfkegnhpihoncaaGreat
set_option linter.all false
namespace Go.Proofs.YtfkegnhpihoncaaGreat
open Go.Sp
set_option linter.unusedSimpArgs false
set_option linter.unusedVariables false
set_option maxHeartbeats 4000000
set_option maxRecDepth 100000
theorem pairs_mem {g : G} (hc : checkG g = 0) (p : Int × Int) : p ∈ pairsE g.es ↔ p ∈ endsL g.es := by
  constructor
  · intro h
    obtain ⟨e, he, rfl⟩ := List.mem_map.1 h
    have := (checkG_zero.1 hc).2.1 e he
    unfold okE at this
    exact List.mem_flatMap.2 ⟨e, he, List.mem_replicate.2 ⟨by omega, rfl⟩⟩
  · intro h
    obtain ⟨e, he, rfl⟩ := endsL_mem h
    exact List.mem_map.2 ⟨e, he, rfl⟩
theorem roots_count {F : List Nat} (hF : FOk F) : ∀ n, n ≤ 12 → rootsN F n = (rootsL F n).length := by
  intro n
  induction n with
  | zero => intro _; rfl
  | succ n ih =>
    intro hn
    rw [rootsL_succ]
    simp only [rootsN, ih (by omega)]
    by_cases h : rootF F 12 n = n
    · rw [if_pos h, if_pos ((root_iff hF (by omega)).1 h)]; simp
    · rw [if_neg h, if_neg (fun e => h ((root_iff hF (by omega)).2 e))]; simp
theorem roots_same {l m : List (Int × Int)} (hl : In12 l) (hm : In12 m) (h : ∀ p, p ∈ l ↔ p ∈ m) : ∀ n, n ≤ 12 → rootsN (genS l).1 n = rootsN (genS m).1 n := by
  intro n
  induction n with
  | zero => intro _; rfl
  | succ n ih =>
    intro hn
    simp only [rootsN, ih (by omega)]
    have h1 := isRoot_iff hl (v := n) (by omega)
    have h2 := isRoot_iff hm (v := n) (by omega)
    have h3 : (∃ u, u < n ∧ Conn l u n) ↔ (∃ u, u < n ∧ Conn m u n) :=
      ⟨fun ⟨u, h4, h5⟩ => ⟨u, h4, h5.mono fun p hp => (h p).1 hp⟩, fun ⟨u, h4, h5⟩ => ⟨u, h4, h5.mono fun p hp => (h p).2 hp⟩⟩
    by_cases e : (genS l).1[n]? = some n
    · rw [if_pos e, if_pos (h2.2 fun x => h1.1 e (h3.2 x))]
    · rw [if_neg e, if_neg (fun x => e (h1.2 fun y => h2.1 x (h3.1 y)))]
theorem cparts_count {g : G} {n : Nat} (hc : checkG g = 0) (hn : g.n = n) : (partsV (genS (pairsE g.es)).1 n).length = partsN g.es n n := by
  have h12 := (checkG_zero.1 hc).1
  have hp := pairs_in12 hc
  have he : In12 (endsL g.es) := fun p h => hp p ((pairs_mem hc p).2 h)
  have h1 := parts_roots hc hn n (Nat.le_refl _)
  have h2 := roots_same hp he (pairs_mem hc) n (by omega)
  have h3 := roots_count (uf _ hp).ok n (by omega)
  rw [partsV_len]; omega
theorem Components_ok (g : G) (hl : g.es.length < 2 ^ 30) : ACall Tryz.prog 145 [tG g] (.tup [tlists (if checkG g ≠ 0 then [] else partsV (genS (pairsE g.es)).1 g.n.toNat), tint (checkG g)]) := by
  have hC := Check_ok g (by omega)
  by_cases hc : checkG g = 0
  · have hJ := cjoined_ok g hc hl
    have hF := (uf _ (pairs_in12 hc)).ok
    have h12 := (checkG_zero.1 hc).1
    rw [if_neg (by omega), hc]
    rw [hc] at hC
    have hlF := hF.len
    unfold tF at hJ
    obtain ⟨n, es⟩ := g
    simp only at hJ h12 ⊢
    generalize (genS (pairsE es)).1 = F at *
    have hP3 := cparts_ok F hF n.toNat (by omega) (by omega) [.int .i64 n, .slice (eRows es) .none] (fun m _ c hc => by
      simp only [List.mem_cons, List.not_mem_nil, or_false] at hc
      rcases hc with rfl | rfl <;> exact True.intro) (fun c hc => by
      simp only [List.mem_cons, List.not_mem_nil, or_false] at hc
      rcases hc with rfl | rfl <;> rfl)
    rw [show ((n.toNat : Nat) : Int) = n by omega] at hP3
    generalize partsV F n.toNat = ps at *
    have hof : (fT F).map ofTree = fC F := fT_of F
    have hst := fC_store zero12 F (by rw [hlF]; rfl)
    have hz : fC zero12 = [.int .i64 0, .int .i64 0, .int .i64 0, .int .i64 0, .int .i64 0, .int .i64 0, .int .i64 0, .int .i64 0, .int .i64 0, .int .i64 0, .int .i64 0, .int .i64 0] := rfl
    rw [hz] at hst
    refine ACall.of_body Tryz.func145 rfl (by kernel_rfl) ?_
    simp only [entry, Tryz.ntmps145, tG]
    refine zU ?_
    repeat' (first|((first|(refine zT ?_;intro K' hK')|(refine zG ?_ ?_<;>(try refine zH ?_)<;>intro hguard<;>(try exact zX)<;>try intro K' hK'))<;>((try simp +contextual only [go_sem, fC_len, fC_free, hof, hst, hlF]);(repeat' first|(with_reducible refine hK' _ _ ?_;clear hK' K')|((with_reducible first|refine zK hC ?_|refine zK hJ ?_|refine ⟨_,_,hP3,?_⟩|refine ⟨_,hP3,?_⟩);try simp +contextual only [go_sem, fC_len, fC_free, hof, hst, hlF])|exact zY|with_reducible refine And.intro ?_ ?_|(with_reducible intro hpath;try exact zP)|(refine hK' _ _ ?_;clear hK' K')|fail);try refine zS ?_))|(refine zE ?_;refine hK _ _ ?_;clear hK K)|(refine zN ?_;try refine zS ?_)|refine zA ?_|(refine zB ?_;intro K hK)|(refine zC ?_ ?_<;>(try refine zH ?_)<;>intro hcond<;>try exact zX)|fail)
    simp [Rets, aret, Blk.cells, ty, Tryz.results145, ares, toT1, toT, borrow, borrow0, capCell, toTree0, tint, tlists]
  · rw [if_pos hc]
    generalize checkG g = E at *
    obtain ⟨n, es⟩ := g
    refine ACall.of_body Tryz.func145 rfl (by kernel_rfl) ?_
    simp only [entry, Tryz.ntmps145, tG]
    refine zU ?_
    refine zR (zc @hc trivial) (zc hC trivial) trivial ?_
    simp [Rets, aret, Blk.cells, ty, Tryz.results145, ares, toT1, toT, borrow, borrow0, capCell, toTree0, tint, tlists, llRows]
theorem Connected_ok (g : G) (hl : g.es.length < 2 ^ 30) : ACall Tryz.prog 109 [tG g] (.tup [tbool (decide (checkG g = 0) && connB g), tint (checkG g)]) := by
  have hC := Components_ok g hl
  by_cases hc : checkG g = 0
  · have h12 := (checkG_zero.1 hc).1
    have hcnt := cparts_count (n := g.n.toNat) hc (by omega)
    rw [if_neg (by omega)] at hC
    have hb : (decide (checkG g = 0) && connB g) = decide (((partsV (genS (pairsE g.es)).1 g.n.toNat).length : Int) = 1) := by
      rw [decide_eq_true hc, Bool.true_and]
      unfold connB
      rw [← hcnt]
      exact decide_eq_decide.2 (by omega)
    rw [hb]
    generalize partsV (genS (pairsE g.es)).1 g.n.toNat = ps at *
    generalize checkG g = E at *
    obtain ⟨n, es⟩ := g
    refine ACall.of_body Tryz.func109 rfl (by kernel_rfl) ?_
    simp only [entry, Tryz.ntmps109, tG]
    refine zU ?_
    refine zR (zc @llRows_len trivial) (zc hC trivial) trivial ?_
    simp [Rets, aret, Blk.cells, ty, Tryz.results109, ares, toT1, toT, borrow, borrow0, capCell, toTree0, tint, tbool]
  · rw [if_pos hc] at hC
    rw [decide_eq_false hc, Bool.false_and]
    generalize checkG g = E at *
    obtain ⟨n, es⟩ := g
    refine ACall.of_body Tryz.func109 rfl (by kernel_rfl) ?_
    simp only [entry, Tryz.ntmps109, tG]
    refine zU ?_
    refine zR (zc @llRows_len trivial) (zc hC trivial) trivial ?_
    simp [Rets, aret, Blk.cells, ty, Tryz.results109, ares, toT1, toT, borrow, borrow0, capCell, toTree0, tint, tbool]
end Go.Proofs.YtfkegnhpihoncaaGreat
set_option linter.all false
namespace Go.Proofs.YtfkegnhpihoncaaGreat
open Go.Sp
set_option linter.unusedSimpArgs false
set_option linter.unusedVariables false
set_option maxHeartbeats 4000000
set_option maxRecDepth 100000
theorem tdiv2 (h : Nat) : Int.tdiv (h : Int) 2 = ((h / 2 : Nat) : Int) := rfl
theorem tmod2 (h : Nat) : Int.tmod (h : Int) 2 = ((h % 2 : Nat) : Int) := rfl
theorem atH_ok (L : List (Int × Int)) (h : Nat) (hh : h < 2 * L.length) (hl : L.length < 2 ^ 30) : ACall Tryz.prog 71 [tpairs L, tint h] (tint (atL L h)) := by
  have e0 : L[h / 2]? = some L[h / 2] := List.getElem?_eq_getElem (by omega)
  have e1 := pRows_get e0
  have ea : atL L h = if h % 2 = 0 then L[h / 2].1 else L[h / 2].2 := by unfold atL; rw [List.getD_eq_getElem?_getD, e0]; rfl
  have hlt : ((h / 2 : Nat) : Int) < L.length := by omega
  rw [ea]
  generalize L[h / 2] = p at *
  obtain ⟨a, b⟩ := p
  refine ACall.of_body Tryz.func71 rfl (by kernel_rfl) ?_
  simp only [entry, Tryz.ntmps71, tpairs, tint]
  refine zU ?_
  have hm : h % 2 = 0 ∨ h % 2 = 1 := by omega
  rcases hm with hm | hm
  ·
    refine zR (zc @tdiv2 (zc @tmod2 (zc @hm (zc @hlt (zc @pRows_len (zc @e1 trivial)))))) trivial trivial ?_
    simp [Rets, aret, Blk.cells, ty, Tryz.results71, ares, toT1, toT, borrow, borrow0, capCell, toTree0, tint, hm]
  ·
    refine zR (zc @tdiv2 (zc @tmod2 (zc @hm (zc @hlt (zc @pRows_len (zc @e1 trivial)))))) trivial trivial ?_
    simp [Rets, aret, Blk.cells, ty, Tryz.results71, ares, toT1, toT, borrow, borrow0, capCell, toTree0, tint, hm]
@[simp] theorem chJ_halves (L : List (Int × Int)) (n k : Nat) : (chJ (halvesL L n k)).take n = chJ (halvesL L n k) := chJ_take (by rw [halvesL_len]; exact Nat.le_refl _)
theorem halves_ok (L : List (Int × Int)) (n : Nat) (hn : n < 2 ^ 20) (hl : L.length < 2 ^ 20) (hr : ∀ h, h < 2 * L.length → 0 ≤ atL L h ∧ atL L h < n) :
    ACall Tryz.prog 67 [tint n, tpairs L] (tlists (halvesL L n (2 * L.length))) := by
  refine ACall.of_body Tryz.func67 rfl (by kernel_rfl) ?_
  simp only [entry, Tryz.ntmps67, tpairs, tint]
  refine zU ?_
  repeat' (first|((first|(refine zT ?_;intro K' hK')|(refine zG ?_ ?_<;>(try refine zH ?_)<;>intro hguard<;>(try exact zX)<;>try intro K' hK'))<;>((try simp +contextual only [go_sem, made_nils, Int.toNat_natCast, Nat.mul_one, pRows_len, List.length_replicate]);(repeat' first|(with_reducible refine hK' _ _ ?_;clear hK' K')|exact zY|with_reducible refine And.intro ?_ ?_|(with_reducible intro hpath;try exact zP)|(refine hK' _ _ ?_;clear hK' K')|fail);try refine zS ?_))|(refine zE ?_;refine hK _ _ ?_;clear hK K)|(refine zN ?_;try refine zS ?_)|refine zA ?_|(refine zB ?_;intro K hK)|(refine zC ?_ ?_<;>(try refine zH ?_)<;>intro hcond<;>try exact zX)|fail)
  refine AWp.weak (Weak.openBs 0 n (pre := []) rfl (Nat.zero_le _)) ?_
  simp only [List.length_cons, List.length_nil, List.set_cons_zero, List.nil_append, List.cons_append, Nat.zero_add, chI_nil, chJ_nil, halvesL_zero L n]
  refine AWp.loopS (α:=Nat) 31 (fun k=>[(1,.c (.slice (pRows L) .none)),(5,.c (.ref 0 1 0 n n)),(11,.c (.int .i64 (2 * (L.length : Int)))),(12,.c (.int .i64 (k : Int)))]) (fun k=>.box (chI 1 (halvesL L n k)) :: chJ (halvesL L n k)) (fun k=>k ≤ 2 * L.length) (fun k=>2 * L.length - k) (0) (hk:=Weak.headL (n + 1) 31 [1, 5, 11, 12] (by (repeat' (first | exact valsIn_nil _ | exact blksIn_nil _ | exact cellsIn_nil _ | refine And.intro ?_ ?_ | refine valsIn_cons ?_ ?_ | refine blksIn_cons ?_ ?_ | refine cellsIn_cons ?_ ?_ | exact True.intro | exact chI_in (by rw [halvesL_len]; omega) | exact chJ_in | (show _ < _; omega) | exact cellsIn_map (fun _ => True.intro) | (intro c hc; cases hc; done) | (intro c hc; simp only [List.mem_cons, List.not_mem_nil, or_false] at hc; subst hc; exact True.intro) | (intro c hc; simp only [List.mem_cons, List.not_mem_nil, or_false] at hc; rcases hc with rfl | rfl <;> exact True.intro))))) (h0:=?_) (round:=fun k hI=>?_)
  · exact Nat.zero_le _
  · have hk : k ≤ 2 * L.length := hI
    clear hI
    by_cases hlt : k < 2 * L.length
    · have hltI : (k : Int) < 2 * (L.length : Int) := by omega
      have hat := hr k hlt
      have hA := atH_ok L k hlt (by omega)
      obtain ⟨v, hv⟩ : ∃ v : Nat, atL L k = v := ⟨(atL L k).toNat, by omega⟩
      have hvn : v < n := by omega
      have hvI : (v : Int) < n := by omega
      have hnx := halvesL_succ hvn hv
      have hg := halvesL_get (L := L) (k := k) hvn
      have hol := ownL_len L (v : Int) k
      have hll := halvesL_len L n k
      rw [hv] at hA
      generalize ownL L (v : Int) k = o at *
      have g1 := chI_get (b := 1) hg
      have g2 := chI_drop (b := 1) hg
      have g3 := chJ_get hg
      have g4 := chI_set 1 v (halvesL L n k) (o ++ [(k : Int)])
      have g5 := chJ_set v (halvesL L n k) (o ++ [(k : Int)]) (n := o.length + 1) (by simp)
      rw [← hnx] at g4 g5
      refine zRc (zc @hltI (zc @hvI (zc @pRows_len (zc @g1 (zc @g2 (zc @g3 (zc @g4 (zc @g5 (zc @chI_len (zc @chJ_len (zc @hll (zc @iRows_len (zc @iRows_snoc trivial))))))))))))) (zc hA trivial) @iRows_k' ?_
      refine ⟨k + 1,Weak.headN (n + 1) 31 [1, 5, 11, 12] (by (repeat' (first | exact valsIn_nil _ | exact blksIn_nil _ | exact cellsIn_nil _ | refine And.intro ?_ ?_ | refine valsIn_cons ?_ ?_ | refine blksIn_cons ?_ ?_ | refine cellsIn_cons ?_ ?_ | exact True.intro | exact chI_in (by rw [halvesL_len]; omega) | exact chJ_in | (show _ < _; omega) | exact cellsIn_map (fun _ => True.intro) | (intro c hc; cases hc; done) | (intro c hc; simp only [List.mem_cons, List.not_mem_nil, or_false] at hc; subst hc; exact True.intro) | (intro c hc; simp only [List.mem_cons, List.not_mem_nil, or_false] at hc; rcases hc with rfl | rfl <;> exact True.intro)))),?_,?_⟩
      · exact hlt
      · omega
    · have ek : k = 2 * L.length := by omega
      subst ek
      have hnl : ¬ (((2 * L.length : Nat) : Int) < 2 * (L.length : Int)) := by omega
      repeat' ((fail_if_success (with_reducible refine AWp.atSeq 7 ?_));(fail_if_success (with_reducible refine AWp.atLast 7 ?_));first|((first|(refine zT ?_;intro K' hK')|(refine zG ?_ ?_<;>(try refine zH ?_)<;>intro hguard<;>(try exact zX)<;>try intro K' hK'))<;>((try simp +contextual only [go_sem, hnl]);(repeat' first|(with_reducible refine hK' _ _ ?_;clear hK' K')|exact zY|with_reducible refine And.intro ?_ ?_|(with_reducible intro hpath;try exact zP)|(refine hK' _ _ ?_;clear hK' K')|fail);try refine zS ?_))|(refine zE ?_;refine hK _ _ ?_;clear hK K)|(refine zN ?_;try refine zS ?_)|refine zA ?_|(refine zB ?_;intro K hK)|(refine zC ?_ ?_<;>(try refine zH ?_)<;>intro hcond<;>try exact zX)|fail)
      refine AWp.boxData 5 0 1 ((halvesL L n (2 * L.length)).map iRows) rfl rfl (by rw [List.length_map, halvesL_len]) (Nat.le_refl _) ?_
      rw [chRows]
      simp only [List.set_cons_succ, List.set_cons_zero]
      refine zR trivial trivial trivial ?_
      simp [Rets, aret, Blk.cells, ty, Tryz.results67, ares, toT1, toT, borrow, borrow0, capCell, toTree0, tlists]
end Go.Proofs.YtfkegnhpihoncaaGreat
set_option linter.all false
namespace Go.Proofs.YtfkegnhpihoncaaGreat
open Go.Sp
set_option linter.unusedSimpArgs false
set_option linter.unusedVariables false
set_option maxHeartbeats 4000000
set_option maxRecDepth 100000
theorem isNaNc_ok (x : Int) : ACall Tryz.prog 141 [tint x] (tbool false) := by
  refine ACall.of_body Tryz.func141 rfl (by kernel_rfl) ?_
  simp only [entry, Tryz.ntmps141, tint]
  refine zU ?_
  refine zR trivial trivial trivial ?_
  simp [Rets, aret, Blk.cells, ty, Tryz.results141, ares, toT1, toT, borrow, borrow0, capCell, toTree0, tbool]
theorem isNaNs_ok (x : Int) : ACall Tryz.prog 159 [tint x] (tbool false) := by
  refine ACall.of_body Tryz.func159 rfl (by kernel_rfl) ?_
  simp only [entry, Tryz.ntmps159, tint]
  refine zU ?_
  refine zR trivial trivial trivial ?_
  simp [Rets, aret, Blk.cells, ty, Tryz.results159, ares, toT1, toT, borrow, borrow0, capCell, toTree0, tbool]
theorem Less_ok (x y : Int) : ACall Tryz.prog 117 [tint x, tint y] (tbool (decide (x < y))) := by
  refine ACall.of_body Tryz.func117 rfl (by kernel_rfl) ?_
  simp only [entry, Tryz.ntmps117, tint]
  refine zU ?_
  refine zR trivial (zc (isNaNc_ok x) (zc (isNaNc_ok y) trivial)) trivial ?_
  simp [Rets, aret, Blk.cells, ty, Tryz.results117, ares, toT1, toT, borrow, borrow0, capCell, toTree0, tbool]
theorem sshr1 (x : Int) : x.fdiv (2 ^ min 1 IntKind.u64.bits) = x / 2 := by
  rw [show (2 : Int) ^ min 1 IntKind.u64.bits = 2 by decide]
  exact Int.fdiv_eq_ediv_of_nonneg _ (by omega)
theorem sshr2 (x : Int) : x.fdiv (2 ^ min 1 64) = x / 2 := sshr1 x
def loI : List Int → Int → Nat
  | [], _ => 0
  | y :: ys, x => if y < x then loI ys x + 1 else 0
theorem loI_eq : ∀ {l : List Int} {x : Int} {i : Nat}, i ≤ l.length → (∀ k (h : k < l.length), k < i → l[k] < x) → (∀ h : i < l.length, ¬ l[i] < x) → loI l x = i
  | [], x, i, h, _, _ => by simp at h; simp [loI, h]
  | y :: ys, x, i, h, h1, h2 => by
    simp only [loI]
    cases i with
    | zero => exact if_neg (h2 (by simp))
    | succ i =>
      rw [if_pos (show y < x from h1 0 (by simp) (by omega)), loI_eq (i := i) (by simpa using h) (fun k hk hki => h1 (k + 1) (by simpa using hk) (by omega)) (fun hi => h2 (by simpa using hi))]
theorem BinI_ok (l : List Int) (x : Int) (hs : l.Pairwise (· < ·)) (hl : l.length < 2 ^ 40) :
    ACall Tryz.prog 131 [tints l, tint x] (.tup [tint (loI l x), tbool (decide (x ∈ l))]) := by
  rw [List.pairwise_iff_getElem] at hs
  refine ACall.of_body Tryz.func131 rfl (by kernel_rfl) ?_
  simp only [entry, Tryz.ntmps131, tints, tint]
  refine zU ?_
  refine zR (zc @iRows_len trivial) trivial trivial ?_
  refine AWp.loopS (α:=(Nat × Nat)) 54 (fun s=>[(0,.c (.slice (iRows l) .none)),(1,.c (.int .i64 x)),(6,.c (.int .i64 l.length)),(7,.c (.int .i64 (s.1 : Int))),(8,.c (.int .i64 (s.2 : Int)))]) (fun s=>[]) (fun s=>s.1 ≤ s.2 ∧ s.2 ≤ l.length ∧ (∀ k (h : k < l.length), k < s.1 → l[k] < x) ∧ (∀ k (h : k < l.length), s.2 ≤ k → ¬ l[k] < x)) (fun s=>s.2 - s.1) ((0, l.length)) (hk:=Weak.headL 0 54 [0, 1, 6, 7, 8] zW) (h0:=?_) (round:=fun s hI=>?_)
  · exact ⟨Nat.zero_le _, Nat.le_refl _, fun k h hk => absurd hk (Nat.not_lt_zero _), fun k h hk => by omega⟩
  · obtain ⟨i, j⟩ := s
    obtain ⟨hij, hj, h1, h2⟩ := hI
    simp only at hij hj h1 h2 ⊢
    by_cases hlt : i < j
    · have hd : ((i : Int) + (j : Int)) / 2 = (((i + j) / 2 : Nat) : Int) := by omega
      have hm1 : i ≤ (i + j) / 2 := by omega
      have hm2 : (i + j) / 2 < j := by omega
      generalize (i + j) / 2 = m at *
      have hml : m < l.length := by omega
      have e1 := iRows_get (List.getElem?_eq_getElem hml)
      generalize hy : l[m] = y at *
      have hcall := Less_ok y x
      by_cases hlt2 : y < x
      · rw [decide_eq_true hlt2] at hcall
        refine zR (zc @e1 (zc @sshr1 (zc @sshr2 (zc @hd (zc @Int.ofNat_lt (zc @iRows_len trivial)))))) (zc hcall trivial) trivial ?_
        refine ⟨(m + 1, j),Weak.headN 0 54 [0, 1, 6, 7, 8] zW,?_,?_⟩
        · refine ⟨hm2, hj, fun k hk hki => ?_, h2⟩
          by_cases e : k = m
          · subst e; rw [hy]; exact hlt2
          · have := hs k m hk hml (by omega)
            omega
        · simp only; omega
      · rw [decide_eq_false hlt2] at hcall
        refine zR (zc @e1 (zc @sshr1 (zc @sshr2 (zc @hd (zc @Int.ofNat_lt (zc @iRows_len trivial)))))) (zc hcall trivial) trivial ?_
        refine ⟨(i, m),Weak.headN 0 54 [0, 1, 6, 7, 8] zW,?_,?_⟩
        · refine ⟨hm1, by omega, h1, fun k hk hki => ?_⟩
          by_cases e : k = m
          · subst e; rw [hy]; exact hlt2
          · have := hs m k hml hk (by omega)
            omega
        · simp only; omega
    · have eij : i = j := by omega
      subst eij
      have hlo : loI l x = i := loI_eq hj h1 (fun h => h2 i h (Nat.le_refl _))
      rw [hlo]
      by_cases hil : i < l.length
      · have e0 := List.getElem?_eq_getElem hil
        have e1 := iRows_get e0
        have hf : x ∈ l ↔ l[i] = x := by
          constructor
          · intro hm
            obtain ⟨k, hk, e⟩ := List.mem_iff_getElem.1 hm
            rcases Nat.lt_trichotomy k i with h | h | h
            · have := h1 k hk h; omega
            · subst h; exact e
            · have := hs i k hil hk h; have := h2 i hil (Nat.le_refl _); omega
          · intro e; rw [← e]; exact List.getElem_mem hil
        generalize hy : l[i] = y at *
        rw [decide_eq_decide.2 hf]
        by_cases hxy : y = x
        · subst hxy
          refine zR (zc @e1 (zc @Int.ofNat_lt (zc @iRows_len (zc @hil trivial)))) (zc (isNaNs_ok y) trivial) trivial ?_
          simp [Rets, aret, Blk.cells, ty, Tryz.results131, ares, toT1, toT, borrow, borrow0, capCell, toTree0, tint, tbool]
        · rw [decide_eq_false hxy]
          refine zR (zc @e1 (zc @Int.ofNat_lt (zc @iRows_len (zc @hil (zc @hxy trivial))))) (zc (isNaNs_ok y) (zc (isNaNs_ok x) trivial)) trivial ?_
          simp [Rets, aret, Blk.cells, ty, Tryz.results131, ares, toT1, toT, borrow, borrow0, capCell, toTree0, tint, tbool]
      · have hf : ¬ x ∈ l := fun hm => by
          obtain ⟨k, hk, e⟩ := List.mem_iff_getElem.1 hm
          have := h1 k hk (by omega); omega
        rw [decide_eq_false hf]
        refine zR (zc @Int.ofNat_lt (zc @iRows_len (zc @hil trivial))) trivial trivial ?_
        simp [Rets, aret, Blk.cells, ty, Tryz.results131, ares, toT1, toT, borrow, borrow0, capCell, toTree0, tint, tbool]
theorem lstGo_step {own pre t : List Int} {h : Int} (h1 : h ∈ own) (h2 : h ∉ pre) : lstGo own pre (h :: t) = lstGo own (pre ++ [h]) t := by
  simp only [lstGo]; rw [if_pos h1, if_neg h2]
theorem list_ok (l own : List Int) (hs : own.Pairwise (· < ·)) (hl : l.length < 2 ^ 40) (ho : own.length < 2 ^ 40) : ACall Tryz.prog 89 [tints l, tints own] (tint (lstErr l own)) := by
  refine ACall.of_body Tryz.func89 rfl (by kernel_rfl) ?_
  simp only [entry, Tryz.ntmps89, tints]
  refine zU ?_
  by_cases hlen : l.length = own.length
  case neg =>
    have hlI : ¬ ((l.length : Int) = own.length) := by omega
    have e : lstErr l own = 8 := by unfold lstErr; exact if_pos hlen
    rw [e]
    refine zR (zc @iRows_len (zc @hlI trivial)) trivial trivial ?_
    simp [Rets, aret, Blk.cells, ty, Tryz.results89, ares, toT1, toT, borrow, borrow0, capCell, toTree0, tint]
  have hlI : ((l.length : Int) = own.length) := by omega
  refine zR (zc @iRows_len (zc @hlI trivial)) trivial trivial ?_
  refine AWp.loopS (α:=Nat) 47 (fun i=>[(0,.c (.slice (iRows l) .none)),(1,.c (.slice (iRows own) .none)),(14,.c (.slice (iRows l) .none)),(15,.c (.int .i64 (own.length : Int))),(16,.c (.int .i64 (i : Int)))]) (fun i=>[]) (fun i=>i ≤ l.length ∧ lstGo own [] l = lstGo own (l.take i) (l.drop i)) (fun i=>l.length - i) (0) (hk:=Weak.headL 0 47 [0, 1, 14, 15, 16] zW) (h0:=?_) (round:=fun i hI=>?_)
  · exact ⟨Nat.zero_le _, rfl⟩
  · obtain ⟨hi, hI⟩ := hI
    by_cases hlt : i < l.length
    · have hltI : (i : Int) < own.length := by omega
      have e0 := List.getElem?_eq_getElem hlt
      have e1 := iRows_get e0
      have hd := List.drop_eq_getElem_cons hlt
      have htk : l.take (i + 1) = l.take i ++ [l[i]] := List.take_succ_eq_append_getElem hlt
      generalize l[i] = x at *
      have hB := BinI_ok own x hs ho
      by_cases hm : x ∈ own
      case neg =>
        rw [decide_eq_false hm] at hB
        have hg : lstGo own [] l = 2 := by rw [hI, hd]; simp only [lstGo]; rw [if_neg hm]
        have e : lstErr l own = 2 := by unfold lstErr; rw [if_neg (by omega), hg]; rfl
        rw [e]
        refine zR (zc @hltI (zc @iRows_len (zc @e1 trivial))) (zc hB trivial) trivial ?_
        simp [Rets, aret, Blk.cells, ty, Tryz.results89, ares, toT1, toT, borrow, borrow0, capCell, toTree0, tint]
      rw [decide_eq_true hm] at hB
      have hC := Contains_ok (l.take i) x (by rw [List.length_take]; omega)
      by_cases hc : x ∈ l.take i
      · have hg : lstGo own [] l = 7 := by rw [hI, hd]; simp only [lstGo]; rw [if_pos hm, if_pos hc]
        have e : lstErr l own = 7 := by unfold lstErr; rw [if_neg (by omega), hg]; rfl
        rw [e]
        rw [decide_eq_true hc] at hC
        refine zR (zc @hltI (zc @iRows_len (zc @e1 (zc @iRows_take (zc @Int.ofNat_lt (zc @hlt trivial)))))) (zc hB (zc hC trivial)) @iRows_k' ?_
        simp [Rets, aret, Blk.cells, ty, Tryz.results89, ares, toT1, toT, borrow, borrow0, capCell, toTree0, tint]
      · rw [decide_eq_false hc] at hC
        refine zR (zc @hltI (zc @iRows_len (zc @e1 (zc @iRows_take (zc @Int.ofNat_lt (zc @hlt trivial)))))) (zc hB (zc hC trivial)) @iRows_k' ?_
        refine ⟨i + 1,Weak.headN 0 47 [0, 1, 14, 15, 16] zW,?_,?_⟩
        · refine ⟨hlt, ?_⟩
          rw [hI, hd, lstGo_step hm hc, ← htk]
        · omega
    · have ei : i = l.length := by omega
      have hg : lstGo own [] l = 0 := by rw [hI, ei, List.drop_length]; rfl
      have hnl : ¬ ((i : Int) < own.length) := by omega
      by_cases hne : l = []
      · have e : lstErr l own = 0 := by
          unfold lstErr; rw [if_neg (by omega), if_neg (by omega), if_neg (fun h => h.1 hne)]
        rw [e]
        subst hne
        refine zR (zc @hnl (zc @iRows_len trivial)) trivial trivial ?_
        simp [Rets, aret, Blk.cells, ty, Tryz.results89, ares, toT1, toT, borrow, borrow0, capCell, toTree0, tint]
      · have hp : 0 < l.length := List.length_pos_iff.2 hne
        have hpo : 0 < own.length := by omega
        have hpI : (0 : Int) < own.length := by omega
        have e1 := List.getElem?_eq_getElem hp
        have e2 := List.getElem?_eq_getElem hpo
        have r1 := iRows_get e1
        have r2 := iRows_get e2
        have d1 : l.getD 0 0 = l[0] := by rw [List.getD_eq_getElem?_getD, e1]; rfl
        have d2 : own.getD 0 0 = own[0] := by rw [List.getD_eq_getElem?_getD, e2]; rfl
        have e : lstErr l own = if l[0] = own[0] then 0 else 9 := by
          unfold lstErr
          rw [if_neg (by omega), if_neg (by omega), d1, d2]
          by_cases h : l[0] = own[0]
          · rw [if_pos h, if_neg (fun h2 => h2.2 h)]
          · rw [if_neg h, if_pos ⟨hne, h⟩]
        rw [e]
        generalize l[0] = x at *
        generalize own[0] = y at *
        by_cases hxy : x = y
        · rw [if_pos hxy]
          refine zR (zc @hnl (zc @iRows_len (zc @hlI (zc @hpI (zc @r1 (zc @r2 (zc @hxy (zc @Int.toNat_zero trivial)))))))) trivial trivial ?_
          simp [Rets, aret, Blk.cells, ty, Tryz.results89, ares, toT1, toT, borrow, borrow0, capCell, toTree0, tint]
        · rw [if_neg hxy]
          refine zR (zc @hnl (zc @iRows_len (zc @hlI (zc @hpI (zc @r1 (zc @r2 (zc @hxy (zc @Int.toNat_zero trivial)))))))) trivial trivial ?_
          simp [Rets, aret, Blk.cells, ty, Tryz.results89, ares, toT1, toT, borrow, borrow0, capCell, toTree0, tint]
end Go.Proofs.YtfkegnhpihoncaaGreat
