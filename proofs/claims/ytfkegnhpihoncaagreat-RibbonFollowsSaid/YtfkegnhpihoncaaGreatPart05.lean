/- A part of the proof: contracts of functions of the program, and plain lemmas. -/
import Derived.Test.YtfkegnhpihoncaaGreatPart04
import Derived.Test.YtfkegnhpihoncaaGreatLayerC
import Derived.Test.YtfkegnhpihoncaaGreatPart03
set_option linter.all false
namespace Go.Proofs.YtfkegnhpihoncaaGreat
open Go.Sp
set_option linter.unusedSimpArgs false
set_option linter.unusedVariables false
set_option maxHeartbeats 4000000
set_option maxRecDepth 100000
theorem tdiv2 (h : Nat) : Int.tdiv (h : Int) 2 = ((h / 2 : Nat) : Int) := rfl
theorem tmod2 (h : Nat) : Int.tmod (h : Int) 2 = ((h % 2 : Nat) : Int) := rfl
theorem atH_ok (L : List (Int × Int)) (h : Nat) (hh : h < 2 * L.length) (hl : L.length < 2 ^ 30) : ACall Tryz.prog 71 [tpairs L, tint h] (tint (atL L h)) := by
  have e0 : L[h / 2]? = some L[h / 2] := List.getElem?_eq_getElem (by omega)
  have e1 := pRows_get e0
  have ea : atL L h = if h % 2 = 0 then L[h / 2].1 else L[h / 2].2 := by unfold atL; rw [List.getD_eq_getElem?_getD, e0]; rfl
  have hlt : ((h / 2 : Nat) : Int) < L.length := by omega
  rw [ea]
  generalize L[h / 2] = p at *
  obtain ⟨a, b⟩ := p
  refine ACall.of_body Tryz.func71 rfl (by kernel_rfl) ?_
  simp only [entry, Tryz.ntmps71, tpairs, tint]
  refine zU ?_
  have hm : h % 2 = 0 ∨ h % 2 = 1 := by omega
  rcases hm with hm | hm
  ·
    repeat' (first|((first|(refine zT ?_;intro K' hK')|(refine zG ?_ ?_<;>(try refine zH ?_)<;>intro hguard<;>(try exact zX)<;>try intro K' hK'))<;>((try simp +contextual only [go_sem, tdiv2, tmod2, hm, hlt, pRows_len, e1, Int.toNat_natCast]);(repeat' first|(with_reducible refine hK' _ _ ?_;clear hK' K')|exact zY|with_reducible refine And.intro ?_ ?_|(with_reducible intro hpath;try exact zP)|(refine hK' _ _ ?_;clear hK' K')|fail);try refine zS ?_))|(refine zE ?_;refine hK _ _ ?_;clear hK K)|(refine zN ?_;try refine zS ?_)|refine zA ?_|(refine zB ?_;intro K hK)|(refine zC ?_ ?_<;>(try refine zH ?_)<;>intro hcond<;>try exact zX)|fail)
    simp [Rets, aret, Blk.cells, ty, Tryz.results71, ares, toT1, toT, borrow, borrow0, capCell, toTree0, tint, hm]
  ·
    repeat' (first|((first|(refine zT ?_;intro K' hK')|(refine zG ?_ ?_<;>(try refine zH ?_)<;>intro hguard<;>(try exact zX)<;>try intro K' hK'))<;>((try simp +contextual only [go_sem, tdiv2, tmod2, hm, hlt, pRows_len, e1, Int.toNat_natCast]);(repeat' first|(with_reducible refine hK' _ _ ?_;clear hK' K')|exact zY|with_reducible refine And.intro ?_ ?_|(with_reducible intro hpath;try exact zP)|(refine hK' _ _ ?_;clear hK' K')|fail);try refine zS ?_))|(refine zE ?_;refine hK _ _ ?_;clear hK K)|(refine zN ?_;try refine zS ?_)|refine zA ?_|(refine zB ?_;intro K hK)|(refine zC ?_ ?_<;>(try refine zH ?_)<;>intro hcond<;>try exact zX)|fail)
    simp [Rets, aret, Blk.cells, ty, Tryz.results71, ares, toT1, toT, borrow, borrow0, capCell, toTree0, tint, hm]
@[simp] theorem chJ_halves (L : List (Int × Int)) (n k : Nat) : (chJ (halvesL L n k)).take n = chJ (halvesL L n k) := chJ_take (by rw [halvesL_len]; exact Nat.le_refl _)
theorem halves_ok (L : List (Int × Int)) (n : Nat) (hn : n < 2 ^ 20) (hl : L.length < 2 ^ 20) (hr : ∀ h, h < 2 * L.length → 0 ≤ atL L h ∧ atL L h < n) :
    ACall Tryz.prog 67 [tint n, tpairs L] (tlists (halvesL L n (2 * L.length))) := by
  refine ACall.of_body Tryz.func67 rfl (by kernel_rfl) ?_
  simp only [entry, Tryz.ntmps67, tpairs, tint]
  refine zU ?_
  repeat' (first|((first|(refine zT ?_;intro K' hK')|(refine zG ?_ ?_<;>(try refine zH ?_)<;>intro hguard<;>(try exact zX)<;>try intro K' hK'))<;>((try simp +contextual only [go_sem, made_nils, Int.toNat_natCast, Nat.mul_one, pRows_len, List.length_replicate]);(repeat' first|(with_reducible refine hK' _ _ ?_;clear hK' K')|exact zY|with_reducible refine And.intro ?_ ?_|(with_reducible intro hpath;try exact zP)|(refine hK' _ _ ?_;clear hK' K')|fail);try refine zS ?_))|(refine zE ?_;refine hK _ _ ?_;clear hK K)|(refine zN ?_;try refine zS ?_)|refine zA ?_|(refine zB ?_;intro K hK)|(refine zC ?_ ?_<;>(try refine zH ?_)<;>intro hcond<;>try exact zX)|fail)
  refine AWp.weak (Weak.openBs 0 n (pre := []) rfl (Nat.zero_le _)) ?_
  simp only [List.length_cons, List.length_nil, List.set_cons_zero, List.nil_append, List.cons_append, Nat.zero_add, chI_nil, chJ_nil, halvesL_zero L n]
  refine AWp.loopx (α:=Nat) (fun k=>(⟨.c .any :: .c (.slice (pRows L) .none) :: .c .any :: .c .any :: .c .any :: .c (.ref 0 1 0 n n) :: .c .any :: .c .any :: .c .any :: .c .any :: .c .any :: .c (.int .i64 (2 * (L.length : Int))) :: .c (.int .i64 (k : Int)) :: .c .any :: .c .any :: .c .any :: .c .any :: .c .any :: .c .any :: .c .any :: .c .any :: .c .any :: .c .any :: .c .any :: .c .any :: .c .any :: .c .any :: .c .any :: .c .any :: .c .any :: .c .any :: [],.box (chI 1 (halvesL L n k)) :: chJ (halvesL L n k)⟩:St)) (fun k=>k ≤ 2 * L.length) (fun k=>2 * L.length - k) (0) (Weak.headL (n + 1) 31 [1, 5, 11, 12] (by (repeat' (first | exact valsIn_nil _ | exact blksIn_nil _ | exact cellsIn_nil _ | refine And.intro ?_ ?_ | refine valsIn_cons ?_ ?_ | refine blksIn_cons ?_ ?_ | refine cellsIn_cons ?_ ?_ | exact True.intro | exact chI_in (by rw [halvesL_len]; omega) | exact chJ_in | (show _ < _; omega) | exact cellsIn_map (fun _ => True.intro) | (intro c hc; cases hc; done) | (intro c hc; simp only [List.mem_cons, List.not_mem_nil, or_false] at hc; subst hc; exact True.intro) | (intro c hc; simp only [List.mem_cons, List.not_mem_nil, or_false] at hc; rcases hc with rfl | rfl <;> exact True.intro))))) ?_ (fun k hI=>?_)
  · exact Nat.zero_le _
  · have hk : k ≤ 2 * L.length := hI
    clear hI
    by_cases hlt : k < 2 * L.length
    · have hltI : (k : Int) < 2 * (L.length : Int) := by omega
      have hat := hr k hlt
      have hA := atH_ok L k hlt (by omega)
      obtain ⟨v, hv⟩ : ∃ v : Nat, atL L k = v := ⟨(atL L k).toNat, by omega⟩
      have hvn : v < n := by omega
      have hvI : (v : Int) < n := by omega
      have hnx := halvesL_succ hvn hv
      have hg := halvesL_get (L := L) (k := k) hvn
      have hol := ownL_len L (v : Int) k
      have hll := halvesL_len L n k
      rw [hv] at hA
      generalize ownL L (v : Int) k = o at *
      have g1 := chI_get (b := 1) hg
      have g2 := chI_drop (b := 1) hg
      have g3 := chJ_get hg
      have g4 := chI_set 1 v (halvesL L n k) (o ++ [(k : Int)])
      have g5 := chJ_set v (halvesL L n k) (o ++ [(k : Int)]) (n := o.length + 1) (by simp)
      rw [← hnx] at g4 g5
      repeat' (first|((first|(refine zT ?_;intro K' hK')|(refine zG ?_ ?_<;>(try refine zH ?_)<;>intro hguard<;>(try exact zX)<;>try intro K' hK'))<;>((try simp +contextual only [go_sem, hltI, hvI, pRows_len, Int.toNat_natCast, Nat.mul_one, g1, g2, g3, g4, g5, chI_len, chJ_len, hll, iRows_len, iRows_snoc, chunks, List.range, List.range.loop]);(repeat' first|(with_reducible refine hK' _ _ ?_;clear hK' K')|(with_reducible refine zK hA ?_;try simp +contextual only [go_sem, hltI, hvI, pRows_len, Int.toNat_natCast, Nat.mul_one, g1, g2, g3, g4, g5, chI_len, chJ_len, hll, iRows_len, iRows_snoc, chunks, List.range, List.range.loop])|(with_reducible exact iRows_k' (by assumption))|exact zY|with_reducible refine And.intro ?_ ?_|(with_reducible intro hpath;try exact zP)|(refine hK' _ _ ?_;clear hK' K')|fail);try refine zS ?_))|(refine zE ?_;refine hK _ _ ?_;clear hK K)|(refine zN ?_;try refine zS ?_)|refine zA ?_|(refine zB ?_;intro K hK)|(refine zC ?_ ?_<;>(try refine zH ?_)<;>intro hcond<;>try exact zX)|fail)
      refine ⟨k + 1,Weak.headN (n + 1) 31 [1, 5, 11, 12] (by (repeat' (first | exact valsIn_nil _ | exact blksIn_nil _ | exact cellsIn_nil _ | refine And.intro ?_ ?_ | refine valsIn_cons ?_ ?_ | refine blksIn_cons ?_ ?_ | refine cellsIn_cons ?_ ?_ | exact True.intro | exact chI_in (by rw [halvesL_len]; omega) | exact chJ_in | (show _ < _; omega) | exact cellsIn_map (fun _ => True.intro) | (intro c hc; cases hc; done) | (intro c hc; simp only [List.mem_cons, List.not_mem_nil, or_false] at hc; subst hc; exact True.intro) | (intro c hc; simp only [List.mem_cons, List.not_mem_nil, or_false] at hc; rcases hc with rfl | rfl <;> exact True.intro)))),?_,?_⟩
      · exact hlt
      · omega
    · have ek : k = 2 * L.length := by omega
      subst ek
      have hnl : ¬ (((2 * L.length : Nat) : Int) < 2 * (L.length : Int)) := by omega
      repeat' ((fail_if_success (with_reducible refine AWp.atSeq 7 ?_));(fail_if_success (with_reducible refine AWp.atLast 7 ?_));first|((first|(refine zT ?_;intro K' hK')|(refine zG ?_ ?_<;>(try refine zH ?_)<;>intro hguard<;>(try exact zX)<;>try intro K' hK'))<;>((try simp +contextual only [go_sem, hnl]);(repeat' first|(with_reducible refine hK' _ _ ?_;clear hK' K')|exact zY|with_reducible refine And.intro ?_ ?_|(with_reducible intro hpath;try exact zP)|(refine hK' _ _ ?_;clear hK' K')|fail);try refine zS ?_))|(refine zE ?_;refine hK _ _ ?_;clear hK K)|(refine zN ?_;try refine zS ?_)|refine zA ?_|(refine zB ?_;intro K hK)|(refine zC ?_ ?_<;>(try refine zH ?_)<;>intro hcond<;>try exact zX)|fail)
      refine AWp.boxData 5 0 1 ((halvesL L n (2 * L.length)).map iRows) rfl rfl (by rw [List.length_map, halvesL_len]) (Nat.le_refl _) ?_
      rw [chRows]
      simp only [List.set_cons_succ, List.set_cons_zero]
      repeat' (first|((first|(refine zT ?_;intro K' hK')|(refine zG ?_ ?_<;>(try refine zH ?_)<;>intro hguard<;>(try exact zX)<;>try intro K' hK'))<;>((try simp +contextual only [go_sem]);(repeat' first|(with_reducible refine hK' _ _ ?_;clear hK' K')|exact zY|with_reducible refine And.intro ?_ ?_|(with_reducible intro hpath;try exact zP)|(refine hK' _ _ ?_;clear hK' K')|fail);try refine zS ?_))|(refine zE ?_;refine hK _ _ ?_;clear hK K)|(refine zN ?_;try refine zS ?_)|refine zA ?_|(refine zB ?_;intro K hK)|(refine zC ?_ ?_<;>(try refine zH ?_)<;>intro hcond<;>try exact zX)|fail)
      simp [Rets, aret, Blk.cells, ty, Tryz.results67, ares, toT1, toT, borrow, borrow0, capCell, toTree0, tlists]
end Go.Proofs.YtfkegnhpihoncaaGreat
set_option linter.all false
namespace Go.Proofs.YtfkegnhpihoncaaGreat
open Go.Sp
set_option linter.unusedSimpArgs false
set_option linter.unusedVariables false
set_option maxHeartbeats 4000000
set_option maxRecDepth 100000
theorem isNaNc_ok (x : Int) : ACall Tryz.prog 141 [tint x] (tbool false) := by
  refine ACall.of_body Tryz.func141 rfl (by kernel_rfl) ?_
  simp only [entry, Tryz.ntmps141, tint]
  refine zU ?_
  repeat' (first|((first|(refine zT ?_;intro K' hK')|(refine zG ?_ ?_<;>(try refine zH ?_)<;>intro hguard<;>(try exact zX)<;>try intro K' hK'))<;>((try simp +contextual only [go_sem]);(repeat' first|(with_reducible refine hK' _ _ ?_;clear hK' K')|exact zY|with_reducible refine And.intro ?_ ?_|(with_reducible intro hpath;try exact zP)|(refine hK' _ _ ?_;clear hK' K')|fail);try refine zS ?_))|(refine zE ?_;refine hK _ _ ?_;clear hK K)|(refine zN ?_;try refine zS ?_)|refine zA ?_|(refine zB ?_;intro K hK)|(refine zC ?_ ?_<;>(try refine zH ?_)<;>intro hcond<;>try exact zX)|fail)
  simp [Rets, aret, Blk.cells, ty, Tryz.results141, ares, toT1, toT, borrow, borrow0, capCell, toTree0, tbool]
theorem isNaNs_ok (x : Int) : ACall Tryz.prog 159 [tint x] (tbool false) := by
  refine ACall.of_body Tryz.func159 rfl (by kernel_rfl) ?_
  simp only [entry, Tryz.ntmps159, tint]
  refine zU ?_
  repeat' (first|((first|(refine zT ?_;intro K' hK')|(refine zG ?_ ?_<;>(try refine zH ?_)<;>intro hguard<;>(try exact zX)<;>try intro K' hK'))<;>((try simp +contextual only [go_sem]);(repeat' first|(with_reducible refine hK' _ _ ?_;clear hK' K')|exact zY|with_reducible refine And.intro ?_ ?_|(with_reducible intro hpath;try exact zP)|(refine hK' _ _ ?_;clear hK' K')|fail);try refine zS ?_))|(refine zE ?_;refine hK _ _ ?_;clear hK K)|(refine zN ?_;try refine zS ?_)|refine zA ?_|(refine zB ?_;intro K hK)|(refine zC ?_ ?_<;>(try refine zH ?_)<;>intro hcond<;>try exact zX)|fail)
  simp [Rets, aret, Blk.cells, ty, Tryz.results159, ares, toT1, toT, borrow, borrow0, capCell, toTree0, tbool]
theorem Less_ok (x y : Int) : ACall Tryz.prog 117 [tint x, tint y] (tbool (decide (x < y))) := by
  refine ACall.of_body Tryz.func117 rfl (by kernel_rfl) ?_
  simp only [entry, Tryz.ntmps117, tint]
  refine zU ?_
  repeat' (first|((first|(refine zT ?_;intro K' hK')|(refine zG ?_ ?_<;>(try refine zH ?_)<;>intro hguard<;>(try exact zX)<;>try intro K' hK'))<;>((try simp +contextual only [go_sem]);(repeat' first|(with_reducible refine hK' _ _ ?_;clear hK' K')|((with_reducible first|refine zK (isNaNc_ok x) ?_|refine zK (isNaNc_ok y) ?_);try simp +contextual only [go_sem])|exact zY|with_reducible refine And.intro ?_ ?_|(with_reducible intro hpath;try exact zP)|(refine hK' _ _ ?_;clear hK' K')|fail);try refine zS ?_))|(refine zE ?_;refine hK _ _ ?_;clear hK K)|(refine zN ?_;try refine zS ?_)|refine zA ?_|(refine zB ?_;intro K hK)|(refine zC ?_ ?_<;>(try refine zH ?_)<;>intro hcond<;>try exact zX)|fail)
  simp [Rets, aret, Blk.cells, ty, Tryz.results117, ares, toT1, toT, borrow, borrow0, capCell, toTree0, tbool]
theorem sshr1 (x : Int) : x.fdiv (2 ^ min 1 IntKind.u64.bits) = x / 2 := by
  rw [show (2 : Int) ^ min 1 IntKind.u64.bits = 2 by decide]
  exact Int.fdiv_eq_ediv_of_nonneg _ (by omega)
theorem sshr2 (x : Int) : x.fdiv (2 ^ min 1 64) = x / 2 := sshr1 x
def loI : List Int → Int → Nat
  | [], _ => 0
  | y :: ys, x => if y < x then loI ys x + 1 else 0
theorem loI_eq : ∀ {l : List Int} {x : Int} {i : Nat}, i ≤ l.length → (∀ k (h : k < l.length), k < i → l[k] < x) → (∀ h : i < l.length, ¬ l[i] < x) → loI l x = i
  | [], x, i, h, _, _ => by simp at h; simp [loI, h]
  | y :: ys, x, i, h, h1, h2 => by
    simp only [loI]
    cases i with
    | zero => exact if_neg (h2 (by simp))
    | succ i =>
      rw [if_pos (show y < x from h1 0 (by simp) (by omega)), loI_eq (i := i) (by simpa using h) (fun k hk hki => h1 (k + 1) (by simpa using hk) (by omega)) (fun hi => h2 (by simpa using hi))]
theorem BinI_ok (l : List Int) (x : Int) (hs : l.Pairwise (· < ·)) (hl : l.length < 2 ^ 40) :
    ACall Tryz.prog 131 [tints l, tint x] (.tup [tint (loI l x), tbool (decide (x ∈ l))]) := by
  rw [List.pairwise_iff_getElem] at hs
  refine ACall.of_body Tryz.func131 rfl (by kernel_rfl) ?_
  simp only [entry, Tryz.ntmps131, tints, tint]
  refine zU ?_
  repeat' (first|((first|(refine zT ?_;intro K' hK')|(refine zG ?_ ?_<;>(try refine zH ?_)<;>intro hguard<;>(try exact zX)<;>try intro K' hK'))<;>((try simp +contextual only [go_sem, iRows_len]);(repeat' first|(with_reducible refine hK' _ _ ?_;clear hK' K')|exact zY|with_reducible refine And.intro ?_ ?_|(with_reducible intro hpath;try exact zP)|(refine hK' _ _ ?_;clear hK' K')|fail);try refine zS ?_))|(refine zE ?_;refine hK _ _ ?_;clear hK K)|(refine zN ?_;try refine zS ?_)|refine zA ?_|(refine zB ?_;intro K hK)|(refine zC ?_ ?_<;>(try refine zH ?_)<;>intro hcond<;>try exact zX)|fail)
  refine AWp.loopx (α:=(Nat × Nat)) (fun s=>(⟨.c (.slice (iRows l) .none) :: .c (.int .i64 x) :: .c .any :: .c .any :: .c .any :: .c .any :: .c (.int .i64 l.length) :: .c (.int .i64 (s.1 : Int)) :: .c (.int .i64 (s.2 : Int)) :: .c .any :: .c .any :: .c .any :: .c .any :: .c .any :: .c .any :: .c .any :: .c .any :: .c .any :: .c .any :: .c .any :: .c .any :: .c .any :: .c .any :: .c .any :: .c .any :: .c .any :: .c .any :: .c .any :: .c .any :: .c .any :: .c .any :: .c .any :: .c .any :: .c .any :: .c .any :: .c .any :: .c .any :: .c .any :: .c .any :: .c .any :: .c .any :: .c .any :: .c .any :: .c .any :: .c .any :: .c .any :: .c .any :: .c .any :: .c .any :: .c .any :: .c .any :: .c .any :: .c .any :: .c .any :: [],[]⟩:St)) (fun s=>s.1 ≤ s.2 ∧ s.2 ≤ l.length ∧ (∀ k (h : k < l.length), k < s.1 → l[k] < x) ∧ (∀ k (h : k < l.length), s.2 ≤ k → ¬ l[k] < x)) (fun s=>s.2 - s.1) ((0, l.length)) (Weak.headL 0 54 [0, 1, 6, 7, 8] zW) ?_ (fun s hI=>?_)
  · exact ⟨Nat.zero_le _, Nat.le_refl _, fun k h hk => absurd hk (Nat.not_lt_zero _), fun k h hk => by omega⟩
  · obtain ⟨i, j⟩ := s
    obtain ⟨hij, hj, h1, h2⟩ := hI
    simp only at hij hj h1 h2 ⊢
    by_cases hlt : i < j
    · have hd : ((i : Int) + (j : Int)) / 2 = (((i + j) / 2 : Nat) : Int) := by omega
      have hm1 : i ≤ (i + j) / 2 := by omega
      have hm2 : (i + j) / 2 < j := by omega
      generalize (i + j) / 2 = m at *
      have hml : m < l.length := by omega
      have e1 := iRows_get (List.getElem?_eq_getElem hml)
      generalize hy : l[m] = y at *
      have hcall := Less_ok y x
      by_cases hlt2 : y < x
      · rw [decide_eq_true hlt2] at hcall
        repeat' (first|((first|(refine zT ?_;intro K' hK')|(refine zG ?_ ?_<;>(try refine zH ?_)<;>intro hguard<;>(try exact zX)<;>try intro K' hK'))<;>((try simp +contextual only [go_sem, e1, sshr1, sshr2, hd, Int.toNat_natCast, Int.ofNat_lt, iRows_len]);(repeat' first|(with_reducible refine hK' _ _ ?_;clear hK' K')|(with_reducible refine zK hcall ?_;try simp +contextual only [go_sem, e1, sshr1, sshr2, hd, Int.toNat_natCast, Int.ofNat_lt, iRows_len])|exact zY|with_reducible refine And.intro ?_ ?_|(with_reducible intro hpath;try exact zP)|(refine hK' _ _ ?_;clear hK' K')|fail);try refine zS ?_))|(refine zE ?_;refine hK _ _ ?_;clear hK K)|(refine zN ?_;try refine zS ?_)|refine zA ?_|(refine zB ?_;intro K hK)|(refine zC ?_ ?_<;>(try refine zH ?_)<;>intro hcond<;>try exact zX)|fail)
        refine ⟨(m + 1, j),Weak.headN 0 54 [0, 1, 6, 7, 8] zW,?_,?_⟩
        · refine ⟨hm2, hj, fun k hk hki => ?_, h2⟩
          by_cases e : k = m
          · subst e; rw [hy]; exact hlt2
          · have := hs k m hk hml (by omega)
            omega
        · simp only; omega
      · rw [decide_eq_false hlt2] at hcall
        repeat' (first|((first|(refine zT ?_;intro K' hK')|(refine zG ?_ ?_<;>(try refine zH ?_)<;>intro hguard<;>(try exact zX)<;>try intro K' hK'))<;>((try simp +contextual only [go_sem, e1, sshr1, sshr2, hd, Int.toNat_natCast, Int.ofNat_lt, iRows_len]);(repeat' first|(with_reducible refine hK' _ _ ?_;clear hK' K')|(with_reducible refine zK hcall ?_;try simp +contextual only [go_sem, e1, sshr1, sshr2, hd, Int.toNat_natCast, Int.ofNat_lt, iRows_len])|exact zY|with_reducible refine And.intro ?_ ?_|(with_reducible intro hpath;try exact zP)|(refine hK' _ _ ?_;clear hK' K')|fail);try refine zS ?_))|(refine zE ?_;refine hK _ _ ?_;clear hK K)|(refine zN ?_;try refine zS ?_)|refine zA ?_|(refine zB ?_;intro K hK)|(refine zC ?_ ?_<;>(try refine zH ?_)<;>intro hcond<;>try exact zX)|fail)
        refine ⟨(i, m),Weak.headN 0 54 [0, 1, 6, 7, 8] zW,?_,?_⟩
        · refine ⟨hm1, by omega, h1, fun k hk hki => ?_⟩
          by_cases e : k = m
          · subst e; rw [hy]; exact hlt2
          · have := hs m k hml hk (by omega)
            omega
        · simp only; omega
    · have eij : i = j := by omega
      subst eij
      have hlo : loI l x = i := loI_eq hj h1 (fun h => h2 i h (Nat.le_refl _))
      rw [hlo]
      by_cases hil : i < l.length
      · have e0 := List.getElem?_eq_getElem hil
        have e1 := iRows_get e0
        have hf : x ∈ l ↔ l[i] = x := by
          constructor
          · intro hm
            obtain ⟨k, hk, e⟩ := List.mem_iff_getElem.1 hm
            rcases Nat.lt_trichotomy k i with h | h | h
            · have := h1 k hk h; omega
            · subst h; exact e
            · have := hs i k hil hk h; have := h2 i hil (Nat.le_refl _); omega
          · intro e; rw [← e]; exact List.getElem_mem hil
        generalize hy : l[i] = y at *
        rw [decide_eq_decide.2 hf]
        by_cases hxy : y = x
        · subst hxy
          repeat' (first|((first|(refine zT ?_;intro K' hK')|(refine zG ?_ ?_<;>(try refine zH ?_)<;>intro hguard<;>(try exact zX)<;>try intro K' hK'))<;>((try simp +contextual only [go_sem, e1, Int.toNat_natCast, Int.ofNat_lt, iRows_len, hil]);(repeat' first|(with_reducible refine hK' _ _ ?_;clear hK' K')|(with_reducible refine zK (isNaNs_ok y) ?_;try simp +contextual only [go_sem, e1, Int.toNat_natCast, Int.ofNat_lt, iRows_len, hil])|exact zY|with_reducible refine And.intro ?_ ?_|(with_reducible intro hpath;try exact zP)|(refine hK' _ _ ?_;clear hK' K')|fail);try refine zS ?_))|(refine zE ?_;refine hK _ _ ?_;clear hK K)|(refine zN ?_;try refine zS ?_)|refine zA ?_|(refine zB ?_;intro K hK)|(refine zC ?_ ?_<;>(try refine zH ?_)<;>intro hcond<;>try exact zX)|fail)
          simp [Rets, aret, Blk.cells, ty, Tryz.results131, ares, toT1, toT, borrow, borrow0, capCell, toTree0, tint, tbool]
        · rw [decide_eq_false hxy]
          repeat' (first|((first|(refine zT ?_;intro K' hK')|(refine zG ?_ ?_<;>(try refine zH ?_)<;>intro hguard<;>(try exact zX)<;>try intro K' hK'))<;>((try simp +contextual only [go_sem, e1, Int.toNat_natCast, Int.ofNat_lt, iRows_len, hil, hxy]);(repeat' first|(with_reducible refine hK' _ _ ?_;clear hK' K')|((with_reducible first|refine zK (isNaNs_ok y) ?_|refine zK (isNaNs_ok x) ?_);try simp +contextual only [go_sem, e1, Int.toNat_natCast, Int.ofNat_lt, iRows_len, hil, hxy])|exact zY|with_reducible refine And.intro ?_ ?_|(with_reducible intro hpath;try exact zP)|(refine hK' _ _ ?_;clear hK' K')|fail);try refine zS ?_))|(refine zE ?_;refine hK _ _ ?_;clear hK K)|(refine zN ?_;try refine zS ?_)|refine zA ?_|(refine zB ?_;intro K hK)|(refine zC ?_ ?_<;>(try refine zH ?_)<;>intro hcond<;>try exact zX)|fail)
          simp [Rets, aret, Blk.cells, ty, Tryz.results131, ares, toT1, toT, borrow, borrow0, capCell, toTree0, tint, tbool]
      · have hf : ¬ x ∈ l := fun hm => by
          obtain ⟨k, hk, e⟩ := List.mem_iff_getElem.1 hm
          have := h1 k hk (by omega); omega
        rw [decide_eq_false hf]
        repeat' (first|((first|(refine zT ?_;intro K' hK')|(refine zG ?_ ?_<;>(try refine zH ?_)<;>intro hguard<;>(try exact zX)<;>try intro K' hK'))<;>((try simp +contextual only [go_sem, Int.ofNat_lt, iRows_len, hil]);(repeat' first|(with_reducible refine hK' _ _ ?_;clear hK' K')|exact zY|with_reducible refine And.intro ?_ ?_|(with_reducible intro hpath;try exact zP)|(refine hK' _ _ ?_;clear hK' K')|fail);try refine zS ?_))|(refine zE ?_;refine hK _ _ ?_;clear hK K)|(refine zN ?_;try refine zS ?_)|refine zA ?_|(refine zB ?_;intro K hK)|(refine zC ?_ ?_<;>(try refine zH ?_)<;>intro hcond<;>try exact zX)|fail)
        simp [Rets, aret, Blk.cells, ty, Tryz.results131, ares, toT1, toT, borrow, borrow0, capCell, toTree0, tint, tbool]
theorem lstGo_step {own pre t : List Int} {h : Int} (h1 : h ∈ own) (h2 : h ∉ pre) : lstGo own pre (h :: t) = lstGo own (pre ++ [h]) t := by
  simp only [lstGo]; rw [if_pos h1, if_neg h2]
theorem list_ok (l own : List Int) (hs : own.Pairwise (· < ·)) (hl : l.length < 2 ^ 40) (ho : own.length < 2 ^ 40) : ACall Tryz.prog 89 [tints l, tints own] (tint (lstErr l own)) := by
  refine ACall.of_body Tryz.func89 rfl (by kernel_rfl) ?_
  simp only [entry, Tryz.ntmps89, tints]
  refine zU ?_
  by_cases hlen : l.length = own.length
  case neg =>
    have hlI : ¬ ((l.length : Int) = own.length) := by omega
    have e : lstErr l own = 8 := by unfold lstErr; exact if_pos hlen
    rw [e]
    repeat' (first|((first|(refine zT ?_;intro K' hK')|(refine zG ?_ ?_<;>(try refine zH ?_)<;>intro hguard<;>(try exact zX)<;>try intro K' hK'))<;>((try simp +contextual only [go_sem, iRows_len, hlI]);(repeat' first|(with_reducible refine hK' _ _ ?_;clear hK' K')|exact zY|with_reducible refine And.intro ?_ ?_|(with_reducible intro hpath;try exact zP)|(refine hK' _ _ ?_;clear hK' K')|fail);try refine zS ?_))|(refine zE ?_;refine hK _ _ ?_;clear hK K)|(refine zN ?_;try refine zS ?_)|refine zA ?_|(refine zB ?_;intro K hK)|(refine zC ?_ ?_<;>(try refine zH ?_)<;>intro hcond<;>try exact zX)|fail)
    simp [Rets, aret, Blk.cells, ty, Tryz.results89, ares, toT1, toT, borrow, borrow0, capCell, toTree0, tint]
  have hlI : ((l.length : Int) = own.length) := by omega
  repeat' (first|((first|(refine zT ?_;intro K' hK')|(refine zG ?_ ?_<;>(try refine zH ?_)<;>intro hguard<;>(try exact zX)<;>try intro K' hK'))<;>((try simp +contextual only [go_sem, iRows_len, hlI]);(repeat' first|(with_reducible refine hK' _ _ ?_;clear hK' K')|exact zY|with_reducible refine And.intro ?_ ?_|(with_reducible intro hpath;try exact zP)|(refine hK' _ _ ?_;clear hK' K')|fail);try refine zS ?_))|(refine zE ?_;refine hK _ _ ?_;clear hK K)|(refine zN ?_;try refine zS ?_)|refine zA ?_|(refine zB ?_;intro K hK)|(refine zC ?_ ?_<;>(try refine zH ?_)<;>intro hcond<;>try exact zX)|fail)
  refine AWp.loopx (α:=Nat) (fun i=>(⟨.c (.slice (iRows l) .none) :: .c (.slice (iRows own) .none) :: .c .any :: .c .any :: .c .any :: .c .any :: .c .any :: .c .any :: .c .any :: .c .any :: .c .any :: .c .any :: .c .any :: .c .any :: .c (.slice (iRows l) .none) :: .c (.int .i64 (own.length : Int)) :: .c (.int .i64 (i : Int)) :: .c .any :: .c .any :: .c .any :: .c .any :: .c .any :: .c .any :: .c .any :: .c .any :: .c .any :: .c .any :: .c .any :: .c .any :: .c .any :: .c .any :: .c .any :: .c .any :: .c .any :: .c .any :: .c .any :: .c .any :: .c .any :: .c .any :: .c .any :: .c .any :: .c .any :: .c .any :: .c .any :: .c .any :: .c .any :: .c .any :: [],[]⟩:St)) (fun i=>i ≤ l.length ∧ lstGo own [] l = lstGo own (l.take i) (l.drop i)) (fun i=>l.length - i) (0) (Weak.headL 0 47 [0, 1, 14, 15, 16] zW) ?_ (fun i hI=>?_)
  · exact ⟨Nat.zero_le _, rfl⟩
  · obtain ⟨hi, hI⟩ := hI
    by_cases hlt : i < l.length
    · have hltI : (i : Int) < own.length := by omega
      have e0 := List.getElem?_eq_getElem hlt
      have e1 := iRows_get e0
      have hd := List.drop_eq_getElem_cons hlt
      have htk : l.take (i + 1) = l.take i ++ [l[i]] := List.take_succ_eq_append_getElem hlt
      generalize l[i] = x at *
      have hB := BinI_ok own x hs ho
      by_cases hm : x ∈ own
      case neg =>
        rw [decide_eq_false hm] at hB
        have hg : lstGo own [] l = 2 := by rw [hI, hd]; simp only [lstGo]; rw [if_neg hm]
        have e : lstErr l own = 2 := by unfold lstErr; rw [if_neg (by omega), hg]; rfl
        rw [e]
        repeat' (first|((first|(refine zT ?_;intro K' hK')|(refine zG ?_ ?_<;>(try refine zH ?_)<;>intro hguard<;>(try exact zX)<;>try intro K' hK'))<;>((try simp +contextual only [go_sem, hltI, iRows_len, e1, Int.toNat_natCast]);(repeat' first|(with_reducible refine hK' _ _ ?_;clear hK' K')|(with_reducible refine zK hB ?_;try simp +contextual only [go_sem, hltI, iRows_len, e1, Int.toNat_natCast])|exact zY|with_reducible refine And.intro ?_ ?_|(with_reducible intro hpath;try exact zP)|(refine hK' _ _ ?_;clear hK' K')|fail);try refine zS ?_))|(refine zE ?_;refine hK _ _ ?_;clear hK K)|(refine zN ?_;try refine zS ?_)|refine zA ?_|(refine zB ?_;intro K hK)|(refine zC ?_ ?_<;>(try refine zH ?_)<;>intro hcond<;>try exact zX)|fail)
        simp [Rets, aret, Blk.cells, ty, Tryz.results89, ares, toT1, toT, borrow, borrow0, capCell, toTree0, tint]
      rw [decide_eq_true hm] at hB
      have hC := Contains_ok (l.take i) x (by rw [List.length_take]; omega)
      by_cases hc : x ∈ l.take i
      · have hg : lstGo own [] l = 7 := by rw [hI, hd]; simp only [lstGo]; rw [if_pos hm, if_pos hc]
        have e : lstErr l own = 7 := by unfold lstErr; rw [if_neg (by omega), hg]; rfl
        rw [e]
        rw [decide_eq_true hc] at hC
        repeat' (first|((first|(refine zT ?_;intro K' hK')|(refine zG ?_ ?_<;>(try refine zH ?_)<;>intro hguard<;>(try exact zX)<;>try intro K' hK'))<;>((try simp +contextual only [go_sem, hltI, iRows_len, e1, Int.toNat_natCast, iRows_take, Int.ofNat_lt, hlt, Option.isSome_none, false_and, not_false_eq_true]);(repeat' first|(with_reducible refine hK' _ _ ?_;clear hK' K')|((with_reducible first|refine zK hB ?_|refine zK hC ?_);try simp +contextual only [go_sem, hltI, iRows_len, e1, Int.toNat_natCast, iRows_take, Int.ofNat_lt, hlt, Option.isSome_none, false_and, not_false_eq_true])|(with_reducible exact iRows_k' (by assumption))|exact zY|with_reducible refine And.intro ?_ ?_|(with_reducible intro hpath;try exact zP)|(refine hK' _ _ ?_;clear hK' K')|fail);try refine zS ?_))|(refine zE ?_;refine hK _ _ ?_;clear hK K)|(refine zN ?_;try refine zS ?_)|refine zA ?_|(refine zB ?_;intro K hK)|(refine zC ?_ ?_<;>(try refine zH ?_)<;>intro hcond<;>try exact zX)|fail)
        simp [Rets, aret, Blk.cells, ty, Tryz.results89, ares, toT1, toT, borrow, borrow0, capCell, toTree0, tint]
      · rw [decide_eq_false hc] at hC
        repeat' (first|((first|(refine zT ?_;intro K' hK')|(refine zG ?_ ?_<;>(try refine zH ?_)<;>intro hguard<;>(try exact zX)<;>try intro K' hK'))<;>((try simp +contextual only [go_sem, hltI, iRows_len, e1, Int.toNat_natCast, iRows_take, Int.ofNat_lt, hlt, Option.isSome_none, false_and, not_false_eq_true]);(repeat' first|(with_reducible refine hK' _ _ ?_;clear hK' K')|((with_reducible first|refine zK hB ?_|refine zK hC ?_);try simp +contextual only [go_sem, hltI, iRows_len, e1, Int.toNat_natCast, iRows_take, Int.ofNat_lt, hlt, Option.isSome_none, false_and, not_false_eq_true])|(with_reducible exact iRows_k' (by assumption))|exact zY|with_reducible refine And.intro ?_ ?_|(with_reducible intro hpath;try exact zP)|(refine hK' _ _ ?_;clear hK' K')|fail);try refine zS ?_))|(refine zE ?_;refine hK _ _ ?_;clear hK K)|(refine zN ?_;try refine zS ?_)|refine zA ?_|(refine zB ?_;intro K hK)|(refine zC ?_ ?_<;>(try refine zH ?_)<;>intro hcond<;>try exact zX)|fail)
        refine ⟨i + 1,Weak.headN 0 47 [0, 1, 14, 15, 16] zW,?_,?_⟩
        · refine ⟨hlt, ?_⟩
          rw [hI, hd, lstGo_step hm hc, ← htk]
        · omega
    · have ei : i = l.length := by omega
      have hg : lstGo own [] l = 0 := by rw [hI, ei, List.drop_length]; rfl
      have hnl : ¬ ((i : Int) < own.length) := by omega
      by_cases hne : l = []
      · have e : lstErr l own = 0 := by
          unfold lstErr; rw [if_neg (by omega), if_neg (by omega), if_neg (fun h => h.1 hne)]
        rw [e]
        subst hne
        repeat' (first|((first|(refine zT ?_;intro K' hK')|(refine zG ?_ ?_<;>(try refine zH ?_)<;>intro hguard<;>(try exact zX)<;>try intro K' hK'))<;>((try simp +contextual only [go_sem, hnl, iRows_len]);(repeat' first|(with_reducible refine hK' _ _ ?_;clear hK' K')|exact zY|with_reducible refine And.intro ?_ ?_|(with_reducible intro hpath;try exact zP)|(refine hK' _ _ ?_;clear hK' K')|fail);try refine zS ?_))|(refine zE ?_;refine hK _ _ ?_;clear hK K)|(refine zN ?_;try refine zS ?_)|refine zA ?_|(refine zB ?_;intro K hK)|(refine zC ?_ ?_<;>(try refine zH ?_)<;>intro hcond<;>try exact zX)|fail)
        simp [Rets, aret, Blk.cells, ty, Tryz.results89, ares, toT1, toT, borrow, borrow0, capCell, toTree0, tint]
      · have hp : 0 < l.length := List.length_pos_iff.2 hne
        have hpo : 0 < own.length := by omega
        have hpI : (0 : Int) < own.length := by omega
        have e1 := List.getElem?_eq_getElem hp
        have e2 := List.getElem?_eq_getElem hpo
        have r1 := iRows_get e1
        have r2 := iRows_get e2
        have d1 : l.getD 0 0 = l[0] := by rw [List.getD_eq_getElem?_getD, e1]; rfl
        have d2 : own.getD 0 0 = own[0] := by rw [List.getD_eq_getElem?_getD, e2]; rfl
        have e : lstErr l own = if l[0] = own[0] then 0 else 9 := by
          unfold lstErr
          rw [if_neg (by omega), if_neg (by omega), d1, d2]
          by_cases h : l[0] = own[0]
          · rw [if_pos h, if_neg (fun h2 => h2.2 h)]
          · rw [if_neg h, if_pos ⟨hne, h⟩]
        rw [e]
        generalize l[0] = x at *
        generalize own[0] = y at *
        by_cases hxy : x = y
        · rw [if_pos hxy]
          repeat' (first|((first|(refine zT ?_;intro K' hK')|(refine zG ?_ ?_<;>(try refine zH ?_)<;>intro hguard<;>(try exact zX)<;>try intro K' hK'))<;>((try simp +contextual only [go_sem, hnl, iRows_len, hlI, hpI, r1, r2, hxy, Int.toNat_zero]);(repeat' first|(with_reducible refine hK' _ _ ?_;clear hK' K')|exact zY|with_reducible refine And.intro ?_ ?_|(with_reducible intro hpath;try exact zP)|(refine hK' _ _ ?_;clear hK' K')|fail);try refine zS ?_))|(refine zE ?_;refine hK _ _ ?_;clear hK K)|(refine zN ?_;try refine zS ?_)|refine zA ?_|(refine zB ?_;intro K hK)|(refine zC ?_ ?_<;>(try refine zH ?_)<;>intro hcond<;>try exact zX)|fail)
          simp [Rets, aret, Blk.cells, ty, Tryz.results89, ares, toT1, toT, borrow, borrow0, capCell, toTree0, tint]
        · rw [if_neg hxy]
          repeat' (first|((first|(refine zT ?_;intro K' hK')|(refine zG ?_ ?_<;>(try refine zH ?_)<;>intro hguard<;>(try exact zX)<;>try intro K' hK'))<;>((try simp +contextual only [go_sem, hnl, iRows_len, hlI, hpI, r1, r2, hxy, Int.toNat_zero]);(repeat' first|(with_reducible refine hK' _ _ ?_;clear hK' K')|exact zY|with_reducible refine And.intro ?_ ?_|(with_reducible intro hpath;try exact zP)|(refine hK' _ _ ?_;clear hK' K')|fail);try refine zS ?_))|(refine zE ?_;refine hK _ _ ?_;clear hK K)|(refine zN ?_;try refine zS ?_)|refine zA ?_|(refine zB ?_;intro K hK)|(refine zC ?_ ?_<;>(try refine zH ?_)<;>intro hcond<;>try exact zX)|fail)
          simp [Rets, aret, Blk.cells, ty, Tryz.results89, ares, toT1, toT, borrow, borrow0, capCell, toTree0, tint]
end Go.Proofs.YtfkegnhpihoncaaGreat
set_option linter.all false
namespace Go.Proofs.YtfkegnhpihoncaaGreat
open Go.Sp
set_option linter.unusedSimpArgs false
set_option linter.unusedVariables false
set_option maxHeartbeats 4000000
set_option maxRecDepth 100000
structure RSm (r : R) : Prop where
  es : r.es.length ≤ 40
  ar : r.ar.length < 2 ^ 20
  l : ∀ l, l ∈ r.ar → l.length < 2 ^ 20
theorem ends_len {g : G} (hl : g.es.length ≤ 40) (hc : checkG g = 0) : (endsL g.es).length ≤ 2000 := by
  obtain ⟨_, h2, _⟩ := checkG_zero.1 hc
  have := endsL_len (es := g.es) fun e he => by have := h2 e he; unfold okE at this; omega
  omega
theorem rjoined_ok (g : G) (hl : g.es.length ≤ 40) : ACall Tryz.prog 66 [tG g] (.tup [tpairs (if checkG g ≠ 0 then [] else endsL g.es), tint (joinedE g)]) := by
  have hE := Ends_ok g (by omega)
  have hC := Connected_ok g (by omega)
  unfold joinedE
  by_cases hc : checkG g = 0
  · rw [if_neg (by omega)] at hE ⊢
    rw [if_neg (by omega)]
    rw [hc, decide_eq_true rfl, Bool.true_and] at hC
    generalize connB g = b at *
    generalize endsL g.es = L at *
    obtain ⟨n, es⟩ := g
    refine ACall.of_body Tryz.func66 rfl (by kernel_rfl) ?_
    simp only [entry, Tryz.ntmps66, tG]
    refine zU ?_
    cases b with
    | true =>
      rw [if_pos rfl]
      repeat' (first|((first|(refine zT ?_;intro K' hK')|(refine zG ?_ ?_<;>(try refine zH ?_)<;>intro hguard<;>(try exact zX)<;>try intro K' hK'))<;>((try simp +contextual only [go_sem]);(repeat' first|(with_reducible refine hK' _ _ ?_;clear hK' K')|((with_reducible first|refine zK hE ?_|refine zK hC ?_);try simp +contextual only [go_sem])|exact zY|with_reducible refine And.intro ?_ ?_|(with_reducible intro hpath;try exact zP)|(refine hK' _ _ ?_;clear hK' K')|fail);try refine zS ?_))|(refine zE ?_;refine hK _ _ ?_;clear hK K)|(refine zN ?_;try refine zS ?_)|refine zA ?_|(refine zB ?_;intro K hK)|(refine zC ?_ ?_<;>(try refine zH ?_)<;>intro hcond<;>try exact zX)|fail)
      simp [Rets, aret, Blk.cells, ty, Tryz.results66, ares, toT1, toT, borrow, borrow0, capCell, toTree0, tint, tpairs]
    | false =>
      rw [if_neg (by simp)]
      repeat' (first|((first|(refine zT ?_;intro K' hK')|(refine zG ?_ ?_<;>(try refine zH ?_)<;>intro hguard<;>(try exact zX)<;>try intro K' hK'))<;>((try simp +contextual only [go_sem]);(repeat' first|(with_reducible refine hK' _ _ ?_;clear hK' K')|((with_reducible first|refine zK hE ?_|refine zK hC ?_);try simp +contextual only [go_sem])|exact zY|with_reducible refine And.intro ?_ ?_|(with_reducible intro hpath;try exact zP)|(refine hK' _ _ ?_;clear hK' K')|fail);try refine zS ?_))|(refine zE ?_;refine hK _ _ ?_;clear hK K)|(refine zN ?_;try refine zS ?_)|refine zA ?_|(refine zB ?_;intro K hK)|(refine zC ?_ ?_<;>(try refine zH ?_)<;>intro hcond<;>try exact zX)|fail)
      simp [Rets, aret, Blk.cells, ty, Tryz.results66, ares, toT1, toT, borrow, borrow0, capCell, toTree0, tint, tpairs]
  · rw [if_pos hc] at hE ⊢
    rw [if_pos hc]
    generalize checkG g = E at *
    obtain ⟨n, es⟩ := g
    refine ACall.of_body Tryz.func66 rfl (by kernel_rfl) ?_
    simp only [entry, Tryz.ntmps66, tG]
    refine zU ?_
    repeat' (first|((first|(refine zT ?_;intro K' hK')|(refine zG ?_ ?_<;>(try refine zH ?_)<;>intro hguard<;>(try exact zX)<;>try intro K' hK'))<;>((try simp +contextual only [go_sem, hc]);(repeat' first|(with_reducible refine hK' _ _ ?_;clear hK' K')|(with_reducible refine zK hE ?_;try simp +contextual only [go_sem, hc])|exact zY|with_reducible refine And.intro ?_ ?_|(with_reducible intro hpath;try exact zP)|(refine hK' _ _ ?_;clear hK' K')|fail);try refine zS ?_))|(refine zE ?_;refine hK _ _ ?_;clear hK K)|(refine zN ?_;try refine zS ?_)|refine zA ?_|(refine zB ?_;intro K hK)|(refine zC ?_ ?_<;>(try refine zH ?_)<;>intro hcond<;>try exact zX)|fail)
    simp [Rets, aret, Blk.cells, ty, Tryz.results66, ares, toT1, toT, borrow, borrow0, capCell, toTree0, tint, tpairs, pRows]
theorem rchecked_ok (r : R) (hr : RSm r) : ACall Tryz.prog 49 [tR r] (.tup [tpairs (if ribE r ≠ 0 then [] else endsL r.es), tint (ribE r)]) := by
  have hJ := rjoined_ok r.g hr.es
  by_cases hj : joinedE r.g = 0
  case neg =>
    have e : ribE r = joinedE r.g := by unfold ribE; rw [if_pos hj]
    rw [e, if_pos hj]
    have hL : ∃ L, (if checkG r.g ≠ 0 then [] else endsL r.g.es) = L := ⟨_, rfl⟩
    obtain ⟨L, hL⟩ := hL
    rw [hL] at hJ
    generalize joinedE r.g = E at *
    obtain ⟨n, es, ar⟩ := r
    refine ACall.of_body Tryz.func49 rfl (by kernel_rfl) ?_
    simp only [entry, Tryz.ntmps49, tR]
    refine zU ?_
    repeat' (first|((first|(refine zT ?_;intro K' hK')|(refine zG ?_ ?_<;>(try refine zH ?_)<;>intro hguard<;>(try exact zX)<;>try intro K' hK'))<;>((try simp +contextual only [go_sem, hj]);(repeat' first|(with_reducible refine hK' _ _ ?_;clear hK' K')|(with_reducible refine zK hJ ?_;try simp +contextual only [go_sem, hj])|exact zY|with_reducible refine And.intro ?_ ?_|(with_reducible intro hpath;try exact zP)|(refine hK' _ _ ?_;clear hK' K')|fail);try refine zS ?_))|(refine zE ?_;refine hK _ _ ?_;clear hK K)|(refine zN ?_;try refine zS ?_)|refine zA ?_|(refine zB ?_;intro K hK)|(refine zC ?_ ?_<;>(try refine zH ?_)<;>intro hcond<;>try exact zX)|fail)
    simp [Rets, aret, Blk.cells, ty, Tryz.results49, ares, toT1, toT, borrow, borrow0, capCell, toTree0, tint, tpairs, pRows]
  have hc : checkG r.g = 0 := by
    unfold joinedE at hj
    by_cases h : checkG r.g = 0
    · exact h
    · rw [if_pos h] at hj; exact absurd hj h
  have h12 := (checkG_zero.1 hc).1
  rw [if_neg (by omega), hj] at hJ
  have hlen := ends_len (g := r.g) hr.es hc
  have hat : ∀ h, h < 2 * (endsL r.es).length → 0 ≤ atL (endsL r.es) h ∧ atL (endsL r.es) h < (r.n.toNat : Nat) := fun h hh => by
    have h12' : 1 ≤ r.n := h12.1
    have := atL_range hc hh; omega
  have hn : r.n = (r.n.toNat : Nat) := by have h12' : 1 ≤ r.n := h12.1; omega
  have hnb : r.n ≤ 12 := h12.2
  have hA := hr.ar
  have hLl := hr.l
  have eR : ribE r = if (r.ar.length : Int) ≠ r.n then 8 else chkGo (endsL r.es) (2 * (endsL r.es).length) 0 r.ar := by unfold ribE; rw [if_neg (by omega)]
  rw [eR]
  have hH := halves_ok (endsL r.es) r.n.toNat (by omega) (by have : (endsL r.es).length ≤ 2000 := hlen; omega) hat
  rw [← hn] at hH
  clear hr hj hc h12 hat eR
  obtain ⟨n, es, ar⟩ := r
  simp only [R.g] at hJ hlen hH hn hnb hA hLl ⊢
  generalize endsL es = L at *
  generalize hk : n.toNat = k at *
  subst hn
  refine ACall.of_body Tryz.func49 rfl (by kernel_rfl) ?_
  simp only [entry, Tryz.ntmps49, tR]
  refine zU ?_
  by_cases hlen2 : ar.length = k
  case neg =>
    have hI : ¬ ((ar.length : Int) = k) := by omega
    rw [if_pos hI]
    repeat' (first|((first|(refine zT ?_;intro K' hK')|(refine zG ?_ ?_<;>(try refine zH ?_)<;>intro hguard<;>(try exact zX)<;>try intro K' hK'))<;>((try simp +contextual only [go_sem, llRows_len, hI]);(repeat' first|(with_reducible refine hK' _ _ ?_;clear hK' K')|(with_reducible refine zK hJ ?_;try simp +contextual only [go_sem, llRows_len, hI])|exact zY|with_reducible refine And.intro ?_ ?_|(with_reducible intro hpath;try exact zP)|(refine hK' _ _ ?_;clear hK' K')|fail);try refine zS ?_))|(refine zE ?_;refine hK _ _ ?_;clear hK K)|(refine zN ?_;try refine zS ?_)|refine zA ?_|(refine zB ?_;intro K hK)|(refine zC ?_ ?_<;>(try refine zH ?_)<;>intro hcond<;>try exact zX)|fail)
    simp [Rets, aret, Blk.cells, ty, Tryz.results49, ares, toT1, toT, borrow, borrow0, capCell, toTree0, tint, tpairs, pRows]
  have hI : (ar.length : Int) = k := by omega
  rw [if_neg (show ¬ ((ar.length : Int) ≠ (k : Int)) by omega)]
  repeat' (first|((first|(refine zT ?_;intro K' hK')|(refine zG ?_ ?_<;>(try refine zH ?_)<;>intro hguard<;>(try exact zX)<;>try intro K' hK'))<;>((try simp +contextual only [go_sem, llRows_len, hI, halvesL_len]);(repeat' first|(with_reducible refine hK' _ _ ?_;clear hK' K')|((with_reducible first|refine zK hJ ?_|refine zK hH ?_);try simp +contextual only [go_sem, llRows_len, hI, halvesL_len])|exact zY|with_reducible refine And.intro ?_ ?_|(with_reducible intro hpath;try exact zP)|(refine hK' _ _ ?_;clear hK' K')|fail);try refine zS ?_))|(refine zE ?_;refine hK _ _ ?_;clear hK K)|(refine zN ?_;try refine zS ?_)|refine zA ?_|(refine zB ?_;intro K hK)|(refine zC ?_ ?_<;>(try refine zH ?_)<;>intro hcond<;>try exact zX)|fail)
  refine AWp.loopx (α:=Nat) (fun i=>(⟨.c .any :: .c (.ptr 0 0) :: .c .any :: .c .any :: .c (.slice (pRows L) .none) :: .c .any :: .c .any :: .c .any :: .c .any :: .c .any :: .c .any :: .c .any :: .c .any :: .c .any :: .c .any :: .c .any :: .c .any :: .c .any :: .c .any :: .c .any :: .c .any :: .c .any :: .c .any :: .c .any :: .c .any :: .c .any :: .c .any :: .c .any :: .c .any :: .c (.slice (llRows (halvesL L k (2 * L.length))) .none) :: .c (.int .i64 (k : Int)) :: .c (.int .i64 (i : Int)) :: .c .any :: .c .any :: .c .any :: .c .any :: .c .any :: .c .any :: .c .any :: .c .any :: .c .any :: .c .any :: .c .any :: .c .any :: .c .any :: .c .any :: .c .any :: .c .any :: [],[.box [.int .i64 (k : Int), .slice (eRows es) .none, .slice (llRows ar) .none]]⟩:St)) (fun i=>i ≤ k ∧ chkGo L (2 * L.length) 0 ar = chkGo L (2 * L.length) i (ar.drop i)) (fun i=>k - i) (0) (Weak.headL 1 48 [1, 4, 29, 30, 31] zW) ?_ (fun i hI=>?_)
  · exact ⟨Nat.zero_le _, rfl⟩
  · obtain ⟨hi, hI2⟩ := hI
    by_cases hlt : i < k
    · have hltI : (i : Int) < k := by omega
      have hil : i < ar.length := by omega
      have e0 := List.getElem?_eq_getElem hil
      have e1 := llRows_get e0
      have e2 := llRows_get (halvesL_get (L := L) (k := 2 * L.length) hlt)
      have hd := List.drop_eq_getElem_cons hil
      have hl := hLl _ (List.getElem_mem hil)
      generalize ar[i] = l at *
      have hol := ownL_len L (i : Int) (2 * L.length)
      have hlist := list_ok l (ownL L (i : Int) (2 * L.length)) (ownL_sorted _ _ _) (by omega) (by omega)
      have hg : chkGo L (2 * L.length) i (l :: ar.drop (i + 1)) = if lstErr l (ownL L (i : Int) (2 * L.length)) ≠ 0 then lstErr l (ownL L (i : Int) (2 * L.length)) else chkGo L (2 * L.length) (i + 1) (ar.drop (i + 1)) := rfl
      rw [← hd, ← hI2] at hg
      generalize lstErr l (ownL L (i : Int) (2 * L.length)) = E at *
      by_cases hE : E = 0
      · rw [if_neg (by omega)] at hg
        subst hE
        repeat' (first|((first|(refine zT ?_;intro K' hK')|(refine zG ?_ ?_<;>(try refine zH ?_)<;>intro hguard<;>(try exact zX)<;>try intro K' hK'))<;>((try simp +contextual only [go_sem, hltI, llRows_len, hI, e1, e2, Int.toNat_natCast]);(repeat' first|(with_reducible refine hK' _ _ ?_;clear hK' K')|(with_reducible refine zK hlist ?_;try simp +contextual only [go_sem, hltI, llRows_len, hI, e1, e2, Int.toNat_natCast])|exact zY|with_reducible refine And.intro ?_ ?_|(with_reducible intro hpath;try exact zP)|(refine hK' _ _ ?_;clear hK' K')|fail);try refine zS ?_))|(refine zE ?_;refine hK _ _ ?_;clear hK K)|(refine zN ?_;try refine zS ?_)|refine zA ?_|(refine zB ?_;intro K hK)|(refine zC ?_ ?_<;>(try refine zH ?_)<;>intro hcond<;>try exact zX)|fail)
        refine ⟨i + 1,Weak.headN 1 48 [1, 4, 29, 30, 31] zW,?_,?_⟩
        · exact ⟨hlt, hg⟩
        · omega
      · rw [if_pos hE] at hg
        rw [hg, if_pos hE]
        repeat' (first|((first|(refine zT ?_;intro K' hK')|(refine zG ?_ ?_<;>(try refine zH ?_)<;>intro hguard<;>(try exact zX)<;>try intro K' hK'))<;>((try simp +contextual only [go_sem, hltI, llRows_len, hI, e1, e2, Int.toNat_natCast, hE]);(repeat' first|(with_reducible refine hK' _ _ ?_;clear hK' K')|(with_reducible refine zK hlist ?_;try simp +contextual only [go_sem, hltI, llRows_len, hI, e1, e2, Int.toNat_natCast, hE])|exact zY|with_reducible refine And.intro ?_ ?_|(with_reducible intro hpath;try exact zP)|(refine hK' _ _ ?_;clear hK' K')|fail);try refine zS ?_))|(refine zE ?_;refine hK _ _ ?_;clear hK K)|(refine zN ?_;try refine zS ?_)|refine zA ?_|(refine zB ?_;intro K hK)|(refine zC ?_ ?_<;>(try refine zH ?_)<;>intro hcond<;>try exact zX)|fail)
        simp [Rets, aret, Blk.cells, ty, Tryz.results49, ares, toT1, toT, borrow, borrow0, capCell, toTree0, tint, tpairs, pRows]
    · have ei : i = k := by omega
      subst ei
      have hz : chkGo L (2 * L.length) 0 ar = 0 := by rw [hI2, List.drop_eq_nil_of_le (by omega)]; rfl
      have hnl : ¬ ((i : Int) < i) := by omega
      rw [hz, if_neg (by omega)]
      repeat' (first|((first|(refine zT ?_;intro K' hK')|(refine zG ?_ ?_<;>(try refine zH ?_)<;>intro hguard<;>(try exact zX)<;>try intro K' hK'))<;>((try simp +contextual only [go_sem, hnl]);(repeat' first|(with_reducible refine hK' _ _ ?_;clear hK' K')|exact zY|with_reducible refine And.intro ?_ ?_|(with_reducible intro hpath;try exact zP)|(refine hK' _ _ ?_;clear hK' K')|fail);try refine zS ?_))|(refine zE ?_;refine hK _ _ ?_;clear hK K)|(refine zN ?_;try refine zS ?_)|refine zA ?_|(refine zB ?_;intro K hK)|(refine zC ?_ ?_<;>(try refine zH ?_)<;>intro hcond<;>try exact zX)|fail)
      simp [Rets, aret, Blk.cells, ty, Tryz.results49, ares, toT1, toT, borrow, borrow0, capCell, toTree0, tint, tpairs]
end Go.Proofs.YtfkegnhpihoncaaGreat
set_option linter.all false
namespace Go.Proofs.YtfkegnhpihoncaaGreat
open Go.Sp
set_option linter.unusedSimpArgs false
set_option linter.unusedVariables false
set_option maxHeartbeats 4000000
set_option maxRecDepth 100000
theorem atL_app {L : List (Int × Int)} {p : Int × Int} {h : Nat} (hh : h < 2 * L.length) : atL (L ++ [p]) h = atL L h := by
  unfold atL
  rw [List.getD_eq_getElem?_getD, List.getD_eq_getElem?_getD, List.getElem?_append_left (by omega)]
theorem ownL_app {L : List (Int × Int)} {p : Int × Int} {v : Int} : ∀ {k : Nat}, k ≤ 2 * L.length → ownL (L ++ [p]) v k = ownL L v k
  | 0, _ => rfl
  | k + 1, h => by rw [ownL_succ, ownL_succ, atL_app (by omega), ownL_app (by omega)]
theorem own_deg (L : List (Int × Int)) (v : Int) : ((ownL L v (2 * L.length)).length : Int) = degL v L := by
  refine snoc_ind (P := fun L => ((ownL L v (2 * L.length)).length : Int) = degL v L) rfl ?_ L
  intro L p ih
  rw [List.length_append, List.length_singleton, show 2 * (L.length + 1) = 2 * L.length + 1 + 1 by omega, ownL_succ, ownL_succ, ownL_app (Nat.le_refl _), degL_snoc]
  have a1 : atL (L ++ [p]) (2 * L.length) = p.1 := by
    unfold atL
    rw [if_pos (by omega), show 2 * L.length / 2 = L.length by omega, List.getD_eq_getElem?_getD]; simp
  have a2 : atL (L ++ [p]) (2 * L.length + 1) = p.2 := by
    unfold atL
    rw [if_neg (by omega), show (2 * L.length + 1) / 2 = L.length by omega, List.getD_eq_getElem?_getD]; simp
  rw [a1, a2]
  unfold b2i
  by_cases h1 : p.1 = v <;> by_cases h2 : p.2 = v <;> simp [h1, h2] <;> omega
theorem own_degR {g : G} {n : Nat} (hc : checkG g = 0) (hn : g.n = n) {v : Int} (hv : 0 ≤ v ∧ v < n) : valR g.es v n + 2 * cntL g.es v v = (ownL (endsL g.es) v (2 * (endsL g.es).length)).length := by
  obtain ⟨h1, h2, h3⟩ := checkG_zero.1 hc
  rw [own_deg, valR_val hc hn hv]
  exact (degL_val (distinct_of h3) (fun x hx => by have := h2 x hx; unfold okE at this; omega) v).symm
theorem hd_iff {l own : List Int} (h : lstGo own [] l = 0) (hlen : l.length = own.length) (hs : own.Pairwise (· < ·)) : (l ≠ [] ∧ l.getD 0 0 ≠ own.getD 0 0) ↔ ∃ x, x ∈ l ∧ x < l.getD 0 0 := by
  obtain ⟨q1, q2, _⟩ := lstGo_zero h
  have q3 := sup_of q2 q1 hlen
  rw [List.pairwise_iff_getElem] at hs
  have hmin : ∀ x, x ∈ own → own.getD 0 0 ≤ x := fun x hx => by
    obtain ⟨k, hk, rfl⟩ := List.mem_iff_getElem.1 hx
    rw [List.getD_eq_getElem?_getD, List.getElem?_eq_getElem (by omega), Option.getD_some]
    by_cases e : k = 0
    · subst e; exact Int.le_refl _
    · have := hs 0 k (by omega) hk (by omega); omega
  constructor
  · rintro ⟨h1, h2⟩
    have hp : 0 < l.length := List.length_pos_iff.2 h1
    have e1 : l.getD 0 0 = l[0] := by rw [List.getD_eq_getElem?_getD, List.getElem?_eq_getElem hp]; rfl
    have e2 : own.getD 0 0 = own[0]'(by omega) := by rw [List.getD_eq_getElem?_getD, List.getElem?_eq_getElem (by omega)]; rfl
    have h3 := hmin (l.getD 0 0) (q1 _ (by rw [e1]; exact List.getElem_mem _))
    exact ⟨own.getD 0 0, q3 _ (by rw [e2]; exact List.getElem_mem _), by omega⟩
  · intro h
    obtain ⟨x, hx, hlt⟩ := h
    refine ⟨fun e => ?_, fun e => ?_⟩
    · rw [e] at hx; exact absurd hx (List.not_mem_nil)
    · have := hmin x (q1 x hx)
      omega
end Go.Proofs.YtfkegnhpihoncaaGreat
set_option linter.all false
namespace Go.Proofs.YtfkegnhpihoncaaGreat
open Go.Sp
set_option linter.unusedSimpArgs false
set_option linter.unusedVariables false
set_option maxHeartbeats 4000000
set_option maxRecDepth 100000
theorem refEnds_ok (g : G) (hl : g.es.length ≤ 40) (hc : checkG g = 0) : ACall Tryz.prog 55 [tG g] (tpairs (endsL g.es)) := by
  have hs := sm_of (g := g) (by omega) hc
  exact EndsR_ok g hs.s hs.es hs.m
theorem refAt_ok (g : G) (hl : g.es.length ≤ 40) (hc : checkG g = 0) (h : Nat) (hh : h < 2 * (endsL g.es).length) : ACall Tryz.prog 74 [tG g, tint h] (tint (atL (endsL g.es) h)) := by
  have hE := refEnds_ok g hl hc
  have hlen := ends_len hl hc
  have e0 : (endsL g.es)[h / 2]? = some (endsL g.es)[h / 2] := List.getElem?_eq_getElem (by omega)
  have e1 := pRows_get e0
  have ea : atL (endsL g.es) h = if h % 2 = 0 then (endsL g.es)[h / 2].1 else (endsL g.es)[h / 2].2 := by unfold atL; rw [List.getD_eq_getElem?_getD, e0]; rfl
  have hlt : ((h / 2 : Nat) : Int) < (endsL g.es).length := by omega
  rw [ea]
  clear ea
  generalize (endsL g.es)[h / 2] = p at *
  obtain ⟨a, b⟩ := p
  generalize endsL g.es = L at *
  obtain ⟨n, es⟩ := g
  refine ACall.of_body Tryz.func74 rfl (by kernel_rfl) ?_
  simp only [entry, Tryz.ntmps74, tG, tint]
  refine zU ?_
  have hm : h % 2 = 0 ∨ h % 2 = 1 := by omega
  rcases hm with hm | hm
  ·
    repeat' (first|((first|(refine zT ?_;intro K' hK')|(refine zG ?_ ?_<;>(try refine zH ?_)<;>intro hguard<;>(try exact zX)<;>try intro K' hK'))<;>((try simp +contextual only [go_sem, tdiv2, tmod2, hm, hlt, pRows_len, e1, Int.toNat_natCast]);(repeat' first|(with_reducible refine hK' _ _ ?_;clear hK' K')|(with_reducible refine zK hE ?_;try simp +contextual only [go_sem, tdiv2, tmod2, hm, hlt, pRows_len, e1, Int.toNat_natCast])|exact zY|with_reducible refine And.intro ?_ ?_|(with_reducible intro hpath;try exact zP)|(refine hK' _ _ ?_;clear hK' K')|fail);try refine zS ?_))|(refine zE ?_;refine hK _ _ ?_;clear hK K)|(refine zN ?_;try refine zS ?_)|refine zA ?_|(refine zB ?_;intro K hK)|(refine zC ?_ ?_<;>(try refine zH ?_)<;>intro hcond<;>try exact zX)|fail)
    simp [Rets, aret, Blk.cells, ty, Tryz.results74, ares, toT1, toT, borrow, borrow0, capCell, toTree0, tint, hm]
  ·
    repeat' (first|((first|(refine zT ?_;intro K' hK')|(refine zG ?_ ?_<;>(try refine zH ?_)<;>intro hguard<;>(try exact zX)<;>try intro K' hK'))<;>((try simp +contextual only [go_sem, tdiv2, tmod2, hm, hlt, pRows_len, e1, Int.toNat_natCast]);(repeat' first|(with_reducible refine hK' _ _ ?_;clear hK' K')|(with_reducible refine zK hE ?_;try simp +contextual only [go_sem, tdiv2, tmod2, hm, hlt, pRows_len, e1, Int.toNat_natCast])|exact zY|with_reducible refine And.intro ?_ ?_|(with_reducible intro hpath;try exact zP)|(refine hK' _ _ ?_;clear hK' K')|fail);try refine zS ?_))|(refine zE ?_;refine hK _ _ ?_;clear hK K)|(refine zN ?_;try refine zS ?_)|refine zA ?_|(refine zB ?_;intro K hK)|(refine zC ?_ ?_<;>(try refine zH ?_)<;>intro hcond<;>try exact zX)|fail)
    simp [Rets, aret, Blk.cells, ty, Tryz.results74, ares, toT1, toT, borrow, borrow0, capCell, toTree0, tint, hm]
theorem refHalf_ok (g : G) (hl : g.es.length ≤ 40) (hc : checkG g = 0) : ACall Tryz.prog 22 [tG g] (tint (2 * ((endsL g.es).length : Int))) := by
  have hs := sm_of (g := g) (by omega) hc
  have hZ := SizeR_ok g hs.s hs.es hs.m
  have hlen := ends_len hl hc
  generalize endsL g.es = L at *
  obtain ⟨n, es⟩ := g
  refine ACall.of_body Tryz.func22 rfl (by kernel_rfl) ?_
  simp only [entry, Tryz.ntmps22, tG]
  refine zU ?_
  repeat' (first|((first|(refine zT ?_;intro K' hK')|(refine zG ?_ ?_<;>(try refine zH ?_)<;>intro hguard<;>(try exact zX)<;>try intro K' hK'))<;>((try simp +contextual only [go_sem]);(repeat' first|(with_reducible refine hK' _ _ ?_;clear hK' K')|(with_reducible refine zK hZ ?_;try simp +contextual only [go_sem])|exact zY|with_reducible refine And.intro ?_ ?_|(with_reducible intro hpath;try exact zP)|(refine hK' _ _ ?_;clear hK' K')|fail);try refine zS ?_))|(refine zE ?_;refine hK _ _ ?_;clear hK K)|(refine zN ?_;try refine zS ?_)|refine zA ?_|(refine zB ?_;intro K hK)|(refine zC ?_ ?_<;>(try refine zH ?_)<;>intro hcond<;>try exact zX)|fail)
  simp [Rets, aret, Blk.cells, ty, Tryz.results22, ares, toT1, toT, borrow, borrow0, capCell, toTree0, tint]
theorem refConn_ok (g : G) (hl : g.es.length ≤ 40) (hc : checkG g = 0) : ACall Tryz.prog 93 [tG g] (tbool (connB g)) := by
  have h12 := (checkG_zero.1 hc).1
  have hP := Parts_ok g g.n.toNat hc (by omega) (by omega)
  unfold connB
  generalize partsN g.es g.n.toNat g.n.toNat = k at *
  have e : decide (k = 1) = decide ((k : Int) = 1) := decide_eq_decide.2 (by omega)
  rw [e]
  obtain ⟨n, es⟩ := g
  refine ACall.of_body Tryz.func93 rfl (by kernel_rfl) ?_
  simp only [entry, Tryz.ntmps93, tG]
  refine zU ?_
  repeat' (first|((first|(refine zT ?_;intro K' hK')|(refine zG ?_ ?_<;>(try refine zH ?_)<;>intro hguard<;>(try exact zX)<;>try intro K' hK'))<;>((try simp +contextual only [go_sem]);(repeat' first|(with_reducible refine hK' _ _ ?_;clear hK' K')|(with_reducible refine zK hP ?_;try simp +contextual only [go_sem])|exact zY|with_reducible refine And.intro ?_ ?_|(with_reducible intro hpath;try exact zP)|(refine hK' _ _ ?_;clear hK' K')|fail);try refine zS ?_))|(refine zE ?_;refine hK _ _ ?_;clear hK K)|(refine zN ?_;try refine zS ?_)|refine zA ?_|(refine zB ?_;intro K hK)|(refine zC ?_ ?_<;>(try refine zH ?_)<;>intro hcond<;>try exact zX)|fail)
  simp [Rets, aret, Blk.cells, ty, Tryz.results93, ares, toT1, toT, borrow, borrow0, capCell, toTree0, tbool]
theorem refJoined_ok (g : G) (hl : g.es.length ≤ 40) : ACall Tryz.prog 51 [tG g] (tint (joinedE g)) := by
  have hC := CheckR_ok g (by omega)
  unfold joinedE
  by_cases hc : checkG g = 0
  · have hK := refConn_ok g hl hc
    have hCn := hK
    clear hK
    rw [if_neg (by omega)]
    rw [hc] at hC
    generalize connB g = b at *
    obtain ⟨n, es⟩ := g
    refine ACall.of_body Tryz.func51 rfl (by kernel_rfl) ?_
    simp only [entry, Tryz.ntmps51, tG]
    refine zU ?_
    cases b with
    | true =>
      rw [if_pos rfl]
      repeat' (first|((first|(refine zT ?_;intro K' hK')|(refine zG ?_ ?_<;>(try refine zH ?_)<;>intro hguard<;>(try exact zX)<;>try intro K' hK'))<;>((try simp +contextual only [go_sem]);(repeat' first|(with_reducible refine hK' _ _ ?_;clear hK' K')|((with_reducible first|refine zK hC ?_|refine zK hCn ?_);try simp +contextual only [go_sem])|exact zY|with_reducible refine And.intro ?_ ?_|(with_reducible intro hpath;try exact zP)|(refine hK' _ _ ?_;clear hK' K')|fail);try refine zS ?_))|(refine zE ?_;refine hK _ _ ?_;clear hK K)|(refine zN ?_;try refine zS ?_)|refine zA ?_|(refine zB ?_;intro K hK)|(refine zC ?_ ?_<;>(try refine zH ?_)<;>intro hcond<;>try exact zX)|fail)
      simp [Rets, aret, Blk.cells, ty, Tryz.results51, ares, toT1, toT, borrow, borrow0, capCell, toTree0, tint]
    | false =>
      rw [if_neg (by simp)]
      repeat' (first|((first|(refine zT ?_;intro K' hK')|(refine zG ?_ ?_<;>(try refine zH ?_)<;>intro hguard<;>(try exact zX)<;>try intro K' hK'))<;>((try simp +contextual only [go_sem]);(repeat' first|(with_reducible refine hK' _ _ ?_;clear hK' K')|((with_reducible first|refine zK hC ?_|refine zK hCn ?_);try simp +contextual only [go_sem])|exact zY|with_reducible refine And.intro ?_ ?_|(with_reducible intro hpath;try exact zP)|(refine hK' _ _ ?_;clear hK' K')|fail);try refine zS ?_))|(refine zE ?_;refine hK _ _ ?_;clear hK K)|(refine zN ?_;try refine zS ?_)|refine zA ?_|(refine zB ?_;intro K hK)|(refine zC ?_ ?_<;>(try refine zH ?_)<;>intro hcond<;>try exact zX)|fail)
      simp [Rets, aret, Blk.cells, ty, Tryz.results51, ares, toT1, toT, borrow, borrow0, capCell, toTree0, tint]
  · rw [if_pos hc]
    generalize checkG g = E at *
    obtain ⟨n, es⟩ := g
    refine ACall.of_body Tryz.func51 rfl (by kernel_rfl) ?_
    simp only [entry, Tryz.ntmps51, tG]
    refine zU ?_
    repeat' (first|((first|(refine zT ?_;intro K' hK')|(refine zG ?_ ?_<;>(try refine zH ?_)<;>intro hguard<;>(try exact zX)<;>try intro K' hK'))<;>((try simp +contextual only [go_sem, hc]);(repeat' first|(with_reducible refine hK' _ _ ?_;clear hK' K')|(with_reducible refine zK hC ?_;try simp +contextual only [go_sem, hc])|exact zY|with_reducible refine And.intro ?_ ?_|(with_reducible intro hpath;try exact zP)|(refine hK' _ _ ?_;clear hK' K')|fail);try refine zS ?_))|(refine zE ?_;refine hK _ _ ?_;clear hK K)|(refine zN ?_;try refine zS ?_)|refine zA ?_|(refine zB ?_;intro K hK)|(refine zC ?_ ?_<;>(try refine zH ?_)<;>intro hcond<;>try exact zX)|fail)
    simp [Rets, aret, Blk.cells, ty, Tryz.results51, ares, toT1, toT, borrow, borrow0, capCell, toTree0, tint]
theorem around_ok (g : G) (hl : g.es.length ≤ 40) (hc : checkG g = 0) (v : Nat) (hv : (v : Int) < g.n) (l : List Int) (hll : l.length < 2 ^ 20) :
    ACall Tryz.prog 52 [tG g, tint v, tints l] (tint (lstErr l (ownL (endsL g.es) (v : Int) (2 * (endsL g.es).length)))) := by
  have h12 := (checkG_zero.1 hc).1
  have hD := DegreeR_ok g g.n.toNat hc (by omega) (by omega) v
  rw [own_degR hc (by omega) ⟨by omega, by omega⟩] at hD
  have hH := refHalf_ok g hl hc
  have hA := fun (h : Nat) (hh : h < 2 * (endsL g.es).length) => refAt_ok g hl hc h hh
  have hlen := ends_len hl hc
  have hs := ownL_sorted (endsL g.es) (v : Int) (2 * (endsL g.es).length)
  have hmem := fun x => ownL_mem (L := endsL g.es) (v := (v : Int)) (k := 2 * (endsL g.es).length) (x := x)
  have hol := ownL_len (endsL g.es) (v : Int) (2 * (endsL g.es).length)
  generalize ownL (endsL g.es) (v : Int) (2 * (endsL g.es).length) = own at *
  generalize endsL g.es = L at *
  clear hc
  obtain ⟨n, es⟩ := g
  simp only at hv h12 hl
  refine ACall.of_body Tryz.func52 rfl (by kernel_rfl) ?_
  simp only [entry, Tryz.ntmps52, tG, tint, tints]
  refine zU ?_
  by_cases hlo : l.length = own.length
  case neg =>
    have hI : ¬ ((l.length : Int) = own.length) := by omega
    have e : lstErr l own = 8 := by unfold lstErr; exact if_pos hlo
    rw [e]
    repeat' (first|((first|(refine zT ?_;intro K' hK')|(refine zG ?_ ?_<;>(try refine zH ?_)<;>intro hguard<;>(try exact zX)<;>try intro K' hK'))<;>((try simp +contextual only [go_sem, iRows_len, hI]);(repeat' first|(with_reducible refine hK' _ _ ?_;clear hK' K')|(with_reducible refine zK hD ?_;try simp +contextual only [go_sem, iRows_len, hI])|exact zY|with_reducible refine And.intro ?_ ?_|(with_reducible intro hpath;try exact zP)|(refine hK' _ _ ?_;clear hK' K')|fail);try refine zS ?_))|(refine zE ?_;refine hK _ _ ?_;clear hK K)|(refine zN ?_;try refine zS ?_)|refine zA ?_|(refine zB ?_;intro K hK)|(refine zC ?_ ?_<;>(try refine zH ?_)<;>intro hcond<;>try exact zX)|fail)
    simp [Rets, aret, Blk.cells, ty, Tryz.results52, ares, toT1, toT, borrow, borrow0, capCell, toTree0, tint]
  have hI : ((l.length : Int) = own.length) := by omega
  repeat' (first|((first|(refine zT ?_;intro K' hK')|(refine zG ?_ ?_<;>(try refine zH ?_)<;>intro hguard<;>(try exact zX)<;>try intro K' hK'))<;>((try simp +contextual only [go_sem, iRows_len, hI]);(repeat' first|(with_reducible refine hK' _ _ ?_;clear hK' K')|(with_reducible refine zK hD ?_;try simp +contextual only [go_sem, iRows_len, hI])|exact zY|with_reducible refine And.intro ?_ ?_|(with_reducible intro hpath;try exact zP)|(refine hK' _ _ ?_;clear hK' K')|fail);try refine zS ?_))|(refine zE ?_;refine hK _ _ ?_;clear hK K)|(refine zN ?_;try refine zS ?_)|refine zA ?_|(refine zB ?_;intro K hK)|(refine zC ?_ ?_<;>(try refine zH ?_)<;>intro hcond<;>try exact zX)|fail)
  refine AWp.loopx (α:=Nat) (fun i=>(⟨.c .any :: .c (.int .i64 (v : Int)) :: .c (.slice (iRows l) .none) :: .c (.ptr 0 0) :: .c .any :: .c .any :: .c .any :: .c (.int .i64 (i : Int)) :: .c .any :: .c .any :: .c .any :: .c .any :: .c .any :: .c .any :: .c .any :: .c .any :: .c .any :: .c .any :: .c .any :: .c .any :: .c .any :: .c .any :: .c .any :: .c .any :: .c .any :: .c .any :: .c .any :: .c .any :: .c .any :: .c .any :: .c .any :: .c .any :: .c .any :: .c .any :: .c .any :: .c .any :: .c .any :: .c .any :: .c .any :: .c .any :: .c .any :: .c .any :: .c .any :: .c .any :: .c .any :: .c .any :: .c .any :: .c .any :: .c .any :: .c .any :: .c .any :: .c .any :: .c .any :: .c .any :: .c .any :: .c .any :: .c .any :: .c .any :: .c .any :: .c .any :: .c .any :: .c .any :: .c .any :: .c .any :: .c .any :: .c .any :: .c .any :: [],[.box [.int .i64 n, .slice (eRows es) .none]]⟩:St)) (fun i=>i ≤ l.length ∧ lstGo own [] l = lstGo own (l.take i) (l.drop i)) (fun i=>l.length - i) (0) (Weak.headL 1 67 [1, 2, 3, 7] zW) ?_ (fun i hI=>?_)
  · exact ⟨Nat.zero_le _, rfl⟩
  · obtain ⟨hi, hI2⟩ := hI
    by_cases hlt : i < l.length
    · have hltI : (i : Int) < own.length := by omega
      have e0 := List.getElem?_eq_getElem hlt
      have e1 := iRows_get e0
      have hd := List.drop_eq_getElem_cons hlt
      have htk : l.take (i + 1) = l.take i ++ [l[i]] := List.take_succ_eq_append_getElem hlt
      generalize l[i] = x at *
      have hm := hmem x
      have hHo := Holds_ok (l.take i) x (by rw [List.length_take]; omega)
      have herr : ¬ x ∈ own → lstErr l own = 2 := fun hn => by
        have hg : lstGo own [] l = 2 := by rw [hI2, hd]; simp only [lstGo]; rw [if_neg hn]
        unfold lstErr; rw [if_neg (by omega), hg]; rfl
      by_cases hx0 : x < 0
      · have e := herr (fun h => by have := hm.1 h; omega)
        rw [e]
        repeat' (first|((first|(refine zT ?_;intro K' hK')|(refine zG ?_ ?_<;>(try refine zH ?_)<;>intro hguard<;>(try exact zX)<;>try intro K' hK'))<;>((try simp +contextual only [go_sem, hltI, hI, iRows_len, e1, Int.toNat_natCast, hx0]);(repeat' first|(with_reducible refine hK' _ _ ?_;clear hK' K')|exact zY|with_reducible refine And.intro ?_ ?_|(with_reducible intro hpath;try exact zP)|(refine hK' _ _ ?_;clear hK' K')|fail);try refine zS ?_))|(refine zE ?_;refine hK _ _ ?_;clear hK K)|(refine zN ?_;try refine zS ?_)|refine zA ?_|(refine zB ?_;intro K hK)|(refine zC ?_ ?_<;>(try refine zH ?_)<;>intro hcond<;>try exact zX)|fail)
        simp [Rets, aret, Blk.cells, ty, Tryz.results52, ares, toT1, toT, borrow, borrow0, capCell, toTree0, tint]
      by_cases hx1 : 2 * (L.length : Int) ≤ x
      · have e := herr (fun h => by have := hm.1 h; omega)
        rw [e]
        repeat' (first|((first|(refine zT ?_;intro K' hK')|(refine zG ?_ ?_<;>(try refine zH ?_)<;>intro hguard<;>(try exact zX)<;>try intro K' hK'))<;>((try simp +contextual only [go_sem, hltI, hI, iRows_len, e1, Int.toNat_natCast, hx0, hx1]);(repeat' first|(with_reducible refine hK' _ _ ?_;clear hK' K')|(with_reducible refine zK hH ?_;try simp +contextual only [go_sem, hltI, hI, iRows_len, e1, Int.toNat_natCast, hx0, hx1])|exact zY|with_reducible refine And.intro ?_ ?_|(with_reducible intro hpath;try exact zP)|(refine hK' _ _ ?_;clear hK' K')|fail);try refine zS ?_))|(refine zE ?_;refine hK _ _ ?_;clear hK K)|(refine zN ?_;try refine zS ?_)|refine zA ?_|(refine zB ?_;intro K hK)|(refine zC ?_ ?_<;>(try refine zH ?_)<;>intro hcond<;>try exact zX)|fail)
        simp [Rets, aret, Blk.cells, ty, Tryz.results52, ares, toT1, toT, borrow, borrow0, capCell, toTree0, tint]
      obtain ⟨y, rfl⟩ := Int.eq_ofNat_of_zero_le (show 0 ≤ x by omega)
      have hyl : y < 2 * L.length := by omega
      have hAy := hA y hyl
      rw [Int.toNat_natCast] at hm
      by_cases hav : atL L y = v
      case neg =>
        have e := herr (fun h => hav (hm.1 h).2.2)
        rw [e]
        generalize atL L y = a at *
        repeat' (first|((first|(refine zT ?_;intro K' hK')|(refine zG ?_ ?_<;>(try refine zH ?_)<;>intro hguard<;>(try exact zX)<;>try intro K' hK'))<;>((try simp +contextual only [go_sem, hltI, hI, iRows_len, e1, Int.toNat_natCast, hx0, hx1, hav]);(repeat' first|(with_reducible refine hK' _ _ ?_;clear hK' K')|((with_reducible first|refine zK hH ?_|refine zK hAy ?_);try simp +contextual only [go_sem, hltI, hI, iRows_len, e1, Int.toNat_natCast, hx0, hx1, hav])|exact zY|with_reducible refine And.intro ?_ ?_|(with_reducible intro hpath;try exact zP)|(refine hK' _ _ ?_;clear hK' K')|fail);try refine zS ?_))|(refine zE ?_;refine hK _ _ ?_;clear hK K)|(refine zN ?_;try refine zS ?_)|refine zA ?_|(refine zB ?_;intro K hK)|(refine zC ?_ ?_<;>(try refine zH ?_)<;>intro hcond<;>try exact zX)|fail)
        simp [Rets, aret, Blk.cells, ty, Tryz.results52, ares, toT1, toT, borrow, borrow0, capCell, toTree0, tint]
      have hin : (y : Int) ∈ own := hm.2 ⟨by omega, by omega, hav⟩
      rw [hav] at hAy
      by_cases hc : (y : Int) ∈ l.take i
      · have hg : lstGo own [] l = 7 := by rw [hI2, hd]; simp only [lstGo]; rw [if_pos hin, if_pos hc]
        have e : lstErr l own = 7 := by unfold lstErr; rw [if_neg (by omega), hg]; rfl
        rw [e]
        rw [decide_eq_true hc] at hHo
        repeat' (first|((first|(refine zT ?_;intro K' hK')|(refine zG ?_ ?_<;>(try refine zH ?_)<;>intro hguard<;>(try exact zX)<;>try intro K' hK'))<;>((try simp +contextual only [go_sem, hltI, hI, iRows_len, e1, Int.toNat_natCast, hx0, hx1, iRows_take, Int.ofNat_lt, hlt, Option.isSome_none, false_and, not_false_eq_true]);(repeat' first|(with_reducible refine hK' _ _ ?_;clear hK' K')|((with_reducible first|refine zK hH ?_|refine zK hAy ?_|refine zK hHo ?_);try simp +contextual only [go_sem, hltI, hI, iRows_len, e1, Int.toNat_natCast, hx0, hx1, iRows_take, Int.ofNat_lt, hlt, Option.isSome_none, false_and, not_false_eq_true])|(with_reducible exact iRows_k' (by assumption))|exact zY|with_reducible refine And.intro ?_ ?_|(with_reducible intro hpath;try exact zP)|(refine hK' _ _ ?_;clear hK' K')|fail);try refine zS ?_))|(refine zE ?_;refine hK _ _ ?_;clear hK K)|(refine zN ?_;try refine zS ?_)|refine zA ?_|(refine zB ?_;intro K hK)|(refine zC ?_ ?_<;>(try refine zH ?_)<;>intro hcond<;>try exact zX)|fail)
        simp [Rets, aret, Blk.cells, ty, Tryz.results52, ares, toT1, toT, borrow, borrow0, capCell, toTree0, tint]
      · rw [decide_eq_false hc] at hHo
        repeat' (first|((first|(refine zT ?_;intro K' hK')|(refine zG ?_ ?_<;>(try refine zH ?_)<;>intro hguard<;>(try exact zX)<;>try intro K' hK'))<;>((try simp +contextual only [go_sem, hltI, hI, iRows_len, e1, Int.toNat_natCast, hx0, hx1, iRows_take, Int.ofNat_lt, hlt, Option.isSome_none, false_and, not_false_eq_true]);(repeat' first|(with_reducible refine hK' _ _ ?_;clear hK' K')|((with_reducible first|refine zK hH ?_|refine zK hAy ?_|refine zK hHo ?_);try simp +contextual only [go_sem, hltI, hI, iRows_len, e1, Int.toNat_natCast, hx0, hx1, iRows_take, Int.ofNat_lt, hlt, Option.isSome_none, false_and, not_false_eq_true])|(with_reducible exact iRows_k' (by assumption))|exact zY|with_reducible refine And.intro ?_ ?_|(with_reducible intro hpath;try exact zP)|(refine hK' _ _ ?_;clear hK' K')|fail);try refine zS ?_))|(refine zE ?_;refine hK _ _ ?_;clear hK K)|(refine zN ?_;try refine zS ?_)|refine zA ?_|(refine zB ?_;intro K hK)|(refine zC ?_ ?_<;>(try refine zH ?_)<;>intro hcond<;>try exact zX)|fail)
        refine ⟨i + 1,Weak.headN 1 67 [1, 2, 3, 7] zW,?_,?_⟩
        · refine ⟨hlt, ?_⟩
          rw [hI2, hd, lstGo_step hin hc, ← htk]
        · omega
    · have ei : i = l.length := by omega
      have hg : lstGo own [] l = 0 := by rw [hI2, ei, List.drop_length]; rfl
      have hnl : ¬ ((i : Int) < own.length) := by omega
      have hh := hd_iff hg hlo hs
      have herr : lstErr l own = if l ≠ [] ∧ l.getD 0 0 ≠ own.getD 0 0 then 9 else 0 := by unfold lstErr; rw [if_neg (by omega), if_neg (by omega)]
      repeat' (first|((first|(refine zT ?_;intro K' hK')|(refine zG ?_ ?_<;>(try refine zH ?_)<;>intro hguard<;>(try exact zX)<;>try intro K' hK'))<;>((try simp +contextual only [go_sem, hnl, iRows_len, hI]);(repeat' first|(with_reducible refine hK' _ _ ?_;clear hK' K')|exact zY|with_reducible refine And.intro ?_ ?_|(with_reducible intro hpath;try exact zP)|(refine hK' _ _ ?_;clear hK' K')|fail);try refine zS ?_))|(refine zE ?_;refine hK _ _ ?_;clear hK K)|(refine zN ?_;try refine zS ?_)|refine zA ?_|(refine zB ?_;intro K hK)|(refine zC ?_ ?_<;>(try refine zH ?_)<;>intro hcond<;>try exact zX)|fail)
      refine AWp.loopx (α:=Nat) (fun j=>(⟨.c .any :: .c .any :: .c (.slice (iRows l) .none) :: .c .any :: .c .any :: .c .any :: .c .any :: .c .any :: .c (.int .i64 ((j : Int) + 1)) :: .c .any :: .c .any :: .c .any :: .c .any :: .c .any :: .c .any :: .c .any :: .c .any :: .c .any :: .c .any :: .c .any :: .c .any :: .c .any :: .c .any :: .c .any :: .c .any :: .c .any :: .c .any :: .c .any :: .c .any :: .c .any :: .c .any :: .c .any :: .c .any :: .c .any :: .c .any :: .c .any :: .c .any :: .c .any :: .c .any :: .c .any :: .c .any :: .c .any :: .c .any :: .c .any :: .c .any :: .c .any :: .c .any :: .c .any :: .c .any :: .c .any :: .c .any :: .c .any :: .c .any :: .c .any :: .c .any :: .c .any :: .c .any :: .c .any :: .c .any :: .c .any :: .c .any :: .c .any :: .c .any :: .c .any :: .c .any :: .c .any :: .c .any :: [],[]⟩:St)) (fun j=>∀ k x, k ≤ j → l[k]? = some x → ¬ x < l.getD 0 0) (fun j=>l.length - j) (0) (Weak.headL 0 67 [2, 8] zW) ?_ (fun j hI=>?_)
      · intro k x hk hx
        have : k = 0 := by omega
        subst this
        rw [List.getD_eq_getElem?_getD, hx]; simp
      · have hinv := hI
        clear hI
        by_cases hltj : j + 1 < l.length
        · have hltJ : (j : Int) + 1 < own.length := by omega
          have f0 := List.getElem?_eq_getElem hltj
          have f1 := iRows_get f0
          have g0 := List.getElem?_eq_getElem (show 0 < l.length by omega)
          have g1 := iRows_get g0
          have hgd : l.getD 0 0 = l[0] := by rw [List.getD_eq_getElem?_getD, g0]; rfl
          have ht : ((j : Int) + 1).toNat = j + 1 := by omega
          have hml := List.getElem_mem hltj
          have hoI : (0 : Int) < own.length := by omega
          generalize l[j + 1] = x at *
          generalize l[0] = z at *
          by_cases hxz : x < z
          · have e : lstErr l own = 9 := by rw [herr, if_pos]; exact hh.2 ⟨x, hml, by rw [hgd]; exact hxz⟩
            rw [e]
            repeat' (first|((first|(refine zT ?_;intro K' hK')|(refine zG ?_ ?_<;>(try refine zH ?_)<;>intro hguard<;>(try exact zX)<;>try intro K' hK'))<;>((try simp +contextual only [go_sem, hltJ, hI, iRows_len, f1, g1, ht, Int.toNat_zero, hxz, hoI]);(repeat' first|(with_reducible refine hK' _ _ ?_;clear hK' K')|exact zY|with_reducible refine And.intro ?_ ?_|(with_reducible intro hpath;try exact zP)|(refine hK' _ _ ?_;clear hK' K')|fail);try refine zS ?_))|(refine zE ?_;refine hK _ _ ?_;clear hK K)|(refine zN ?_;try refine zS ?_)|refine zA ?_|(refine zB ?_;intro K hK)|(refine zC ?_ ?_<;>(try refine zH ?_)<;>intro hcond<;>try exact zX)|fail)
            simp [Rets, aret, Blk.cells, ty, Tryz.results52, ares, toT1, toT, borrow, borrow0, capCell, toTree0, tint]
          · have hxz2 : z ≤ x := by omega
            repeat' (first|((first|(refine zT ?_;intro K' hK')|(refine zG ?_ ?_<;>(try refine zH ?_)<;>intro hguard<;>(try exact zX)<;>try intro K' hK'))<;>((try simp +contextual only [go_sem, hltJ, hI, iRows_len, f1, g1, ht, Int.toNat_zero, hxz, hoI]);(repeat' first|(with_reducible refine hK' _ _ ?_;clear hK' K')|exact zY|with_reducible refine And.intro ?_ ?_|(with_reducible intro hpath;try exact zP)|(refine hK' _ _ ?_;clear hK' K')|fail);try refine zS ?_))|(refine zE ?_;refine hK _ _ ?_;clear hK K)|(refine zN ?_;try refine zS ?_)|refine zA ?_|(refine zB ?_;intro K hK)|(refine zC ?_ ?_<;>(try refine zH ?_)<;>intro hcond<;>try exact zX)|fail)
            refine ⟨j + 1,Weak.headN 0 67 [2, 8] zW,?_,?_⟩
            · intro k y hk hy
              by_cases e : k = j + 1
              · subst e
                rw [f0] at hy
                cases hy
                rw [hgd]; exact hxz
              · exact hinv k y (by omega) hy
            · omega
        · have hnlj : ¬ ((j : Int) + 1 < own.length) := by omega
          have e : lstErr l own = 0 := by
            rw [herr, if_neg]
            intro h
            obtain ⟨x, hx, hlt⟩ := hh.1 h
            obtain ⟨k, hk, rfl⟩ := List.mem_iff_getElem.1 hx
            exact hinv k _ (by omega) (List.getElem?_eq_getElem hk) hlt
          rw [e]
          repeat' (first|((first|(refine zT ?_;intro K' hK')|(refine zG ?_ ?_<;>(try refine zH ?_)<;>intro hguard<;>(try exact zX)<;>try intro K' hK'))<;>((try simp +contextual only [go_sem, hnlj, hI, iRows_len]);(repeat' first|(with_reducible refine hK' _ _ ?_;clear hK' K')|exact zY|with_reducible refine And.intro ?_ ?_|(with_reducible intro hpath;try exact zP)|(refine hK' _ _ ?_;clear hK' K')|fail);try refine zS ?_))|(refine zE ?_;refine hK _ _ ?_;clear hK K)|(refine zN ?_;try refine zS ?_)|refine zA ?_|(refine zB ?_;intro K hK)|(refine zC ?_ ?_<;>(try refine zH ?_)<;>intro hcond<;>try exact zX)|fail)
          simp [Rets, aret, Blk.cells, ty, Tryz.results52, ares, toT1, toT, borrow, borrow0, capCell, toTree0, tint]
theorem refCheck_ok (r : R) (hs : RSm r) : ACall Tryz.prog 15 [tR r] (tint (ribE r)) := by
  have hJ := refJoined_ok r.g hs.es
  by_cases hj : joinedE r.g = 0
  case neg =>
    have e : ribE r = joinedE r.g := by unfold ribE; rw [if_pos hj]
    rw [e]
    clear e
    generalize joinedE r.g = E at *
    obtain ⟨n, es, ar⟩ := r
    refine ACall.of_body Tryz.func15 rfl (by kernel_rfl) ?_
    simp only [entry, Tryz.ntmps15, tR]
    refine zU ?_
    repeat' (first|((first|(refine zT ?_;intro K' hK')|(refine zG ?_ ?_<;>(try refine zH ?_)<;>intro hguard<;>(try exact zX)<;>try intro K' hK'))<;>((try simp +contextual only [go_sem, hj]);(repeat' first|(with_reducible refine hK' _ _ ?_;clear hK' K')|(with_reducible refine zK hJ ?_;try simp +contextual only [go_sem, hj])|exact zY|with_reducible refine And.intro ?_ ?_|(with_reducible intro hpath;try exact zP)|(refine hK' _ _ ?_;clear hK' K')|fail);try refine zS ?_))|(refine zE ?_;refine hK _ _ ?_;clear hK K)|(refine zN ?_;try refine zS ?_)|refine zA ?_|(refine zB ?_;intro K hK)|(refine zC ?_ ?_<;>(try refine zH ?_)<;>intro hcond<;>try exact zX)|fail)
    simp [Rets, aret, Blk.cells, ty, Tryz.results15, ares, toT1, toT, borrow, borrow0, capCell, toTree0, tint]
  have hc : checkG r.g = 0 := by
    unfold joinedE at hj
    by_cases h : checkG r.g = 0
    · exact h
    · rw [if_pos h] at hj; exact absurd hj h
  have h12 : 1 ≤ r.n ∧ r.n ≤ 12 := (checkG_zero.1 hc).1
  have eR : ribE r = if (r.ar.length : Int) ≠ r.n then 8 else chkGo (endsL r.es) (2 * (endsL r.es).length) 0 r.ar := by unfold ribE; rw [if_neg (by omega)]
  rw [eR]
  rw [hj] at hJ
  have hAr := fun (v : Nat) (hv : (v : Int) < r.n) (l : List Int) (hl : l.length < 2 ^ 20) => around_ok r.g hs.es hc v hv l hl
  have hLl := hs.l
  have hA := hs.ar
  clear hs hj hc eR
  obtain ⟨n, es, ar⟩ := r
  simp only [R.g] at hJ hAr h12 hLl hA ⊢
  generalize hL : endsL es = L at *
  obtain ⟨k, rfl⟩ := Int.eq_ofNat_of_zero_le (show 0 ≤ n by omega)
  refine ACall.of_body Tryz.func15 rfl (by kernel_rfl) ?_
  simp only [entry, Tryz.ntmps15, tR]
  refine zU ?_
  by_cases hlen2 : ar.length = k
  case neg =>
    have hI : ¬ ((ar.length : Int) = k) := by omega
    rw [if_pos hI]
    repeat' (first|((first|(refine zT ?_;intro K' hK')|(refine zG ?_ ?_<;>(try refine zH ?_)<;>intro hguard<;>(try exact zX)<;>try intro K' hK'))<;>((try simp +contextual only [go_sem, llRows_len, hI]);(repeat' first|(with_reducible refine hK' _ _ ?_;clear hK' K')|(with_reducible refine zK hJ ?_;try simp +contextual only [go_sem, llRows_len, hI])|exact zY|with_reducible refine And.intro ?_ ?_|(with_reducible intro hpath;try exact zP)|(refine hK' _ _ ?_;clear hK' K')|fail);try refine zS ?_))|(refine zE ?_;refine hK _ _ ?_;clear hK K)|(refine zN ?_;try refine zS ?_)|refine zA ?_|(refine zB ?_;intro K hK)|(refine zC ?_ ?_<;>(try refine zH ?_)<;>intro hcond<;>try exact zX)|fail)
    simp [Rets, aret, Blk.cells, ty, Tryz.results15, ares, toT1, toT, borrow, borrow0, capCell, toTree0, tint]
  have hI : (ar.length : Int) = k := by omega
  rw [if_neg (show ¬ ((ar.length : Int) ≠ (k : Int)) by omega)]
  repeat' (first|((first|(refine zT ?_;intro K' hK')|(refine zG ?_ ?_<;>(try refine zH ?_)<;>intro hguard<;>(try exact zX)<;>try intro K' hK'))<;>((try simp +contextual only [go_sem, llRows_len, hI]);(repeat' first|(with_reducible refine hK' _ _ ?_;clear hK' K')|(with_reducible refine zK hJ ?_;try simp +contextual only [go_sem, llRows_len, hI])|exact zY|with_reducible refine And.intro ?_ ?_|(with_reducible intro hpath;try exact zP)|(refine hK' _ _ ?_;clear hK' K')|fail);try refine zS ?_))|(refine zE ?_;refine hK _ _ ?_;clear hK K)|(refine zN ?_;try refine zS ?_)|refine zA ?_|(refine zB ?_;intro K hK)|(refine zC ?_ ?_<;>(try refine zH ?_)<;>intro hcond<;>try exact zX)|fail)
  refine AWp.loopx (α:=Nat) (fun i=>(⟨.c .any :: .c (.ptr 0 0) :: .c .any :: .c .any :: .c (.int .i64 (i : Int)) :: .c .any :: .c .any :: .c .any :: .c .any :: .c .any :: .c .any :: .c .any :: .c .any :: .c .any :: .c .any :: .c .any :: .c .any :: .c .any :: .c .any :: .c .any :: .c .any :: .c .any :: .c .any :: .c .any :: .c .any :: .c .any :: .c .any :: .c .any :: .c .any :: .c .any :: .c .any :: .c .any :: .c .any :: .c .any :: .c .any :: .c .any :: .c .any :: .c .any :: [],[.box [.int .i64 (k : Int), .slice (eRows es) .none, .slice (llRows ar) .none]]⟩:St)) (fun i=>i ≤ k ∧ chkGo L (2 * L.length) 0 ar = chkGo L (2 * L.length) i (ar.drop i)) (fun i=>k - i) (0) (Weak.headL 1 38 [1, 4] zW) ?_ (fun i hI=>?_)
  · exact ⟨Nat.zero_le _, rfl⟩
  · obtain ⟨hi, hI2⟩ := hI
    by_cases hlt : i < k
    · have hltI : (i : Int) < k := by omega
      have hil : i < ar.length := by omega
      have e0 := List.getElem?_eq_getElem hil
      have e1 := llRows_get e0
      have hd := List.drop_eq_getElem_cons hil
      have hl := hLl _ (List.getElem_mem hil)
      generalize ar[i] = l at *
      have hlist := hAr i hltI l hl
      have hg : chkGo L (2 * L.length) i (l :: ar.drop (i + 1)) = if lstErr l (ownL L (i : Int) (2 * L.length)) ≠ 0 then lstErr l (ownL L (i : Int) (2 * L.length)) else chkGo L (2 * L.length) (i + 1) (ar.drop (i + 1)) := rfl
      rw [← hd, ← hI2] at hg
      generalize lstErr l (ownL L (i : Int) (2 * L.length)) = E at *
      by_cases hE : E = 0
      · rw [if_neg (by omega)] at hg
        subst hE
        repeat' (first|((first|(refine zT ?_;intro K' hK')|(refine zG ?_ ?_<;>(try refine zH ?_)<;>intro hguard<;>(try exact zX)<;>try intro K' hK'))<;>((try simp +contextual only [go_sem, hltI, llRows_len, hI, e1, Int.toNat_natCast]);(repeat' first|(with_reducible refine hK' _ _ ?_;clear hK' K')|(with_reducible refine zK hlist ?_;try simp +contextual only [go_sem, hltI, llRows_len, hI, e1, Int.toNat_natCast])|exact zY|with_reducible refine And.intro ?_ ?_|(with_reducible intro hpath;try exact zP)|(refine hK' _ _ ?_;clear hK' K')|fail);try refine zS ?_))|(refine zE ?_;refine hK _ _ ?_;clear hK K)|(refine zN ?_;try refine zS ?_)|refine zA ?_|(refine zB ?_;intro K hK)|(refine zC ?_ ?_<;>(try refine zH ?_)<;>intro hcond<;>try exact zX)|fail)
        refine ⟨i + 1,Weak.headN 1 38 [1, 4] zW,?_,?_⟩
        · exact ⟨hlt, hg⟩
        · omega
      · rw [if_pos hE] at hg
        rw [hg]
        repeat' (first|((first|(refine zT ?_;intro K' hK')|(refine zG ?_ ?_<;>(try refine zH ?_)<;>intro hguard<;>(try exact zX)<;>try intro K' hK'))<;>((try simp +contextual only [go_sem, hltI, llRows_len, hI, e1, Int.toNat_natCast, hE]);(repeat' first|(with_reducible refine hK' _ _ ?_;clear hK' K')|(with_reducible refine zK hlist ?_;try simp +contextual only [go_sem, hltI, llRows_len, hI, e1, Int.toNat_natCast, hE])|exact zY|with_reducible refine And.intro ?_ ?_|(with_reducible intro hpath;try exact zP)|(refine hK' _ _ ?_;clear hK' K')|fail);try refine zS ?_))|(refine zE ?_;refine hK _ _ ?_;clear hK K)|(refine zN ?_;try refine zS ?_)|refine zA ?_|(refine zB ?_;intro K hK)|(refine zC ?_ ?_<;>(try refine zH ?_)<;>intro hcond<;>try exact zX)|fail)
        simp [Rets, aret, Blk.cells, ty, Tryz.results15, ares, toT1, toT, borrow, borrow0, capCell, toTree0, tint]
    · have ei : i = k := by omega
      subst ei
      have hz : chkGo L (2 * L.length) 0 ar = 0 := by rw [hI2, List.drop_eq_nil_of_le (by omega)]; rfl
      have hnl : ¬ ((i : Int) < i) := by omega
      rw [hz]
      repeat' (first|((first|(refine zT ?_;intro K' hK')|(refine zG ?_ ?_<;>(try refine zH ?_)<;>intro hguard<;>(try exact zX)<;>try intro K' hK'))<;>((try simp +contextual only [go_sem, hnl]);(repeat' first|(with_reducible refine hK' _ _ ?_;clear hK' K')|exact zY|with_reducible refine And.intro ?_ ?_|(with_reducible intro hpath;try exact zP)|(refine hK' _ _ ?_;clear hK' K')|fail);try refine zS ?_))|(refine zE ?_;refine hK _ _ ?_;clear hK K)|(refine zN ?_;try refine zS ?_)|refine zA ?_|(refine zB ?_;intro K hK)|(refine zC ?_ ?_<;>(try refine zH ?_)<;>intro hcond<;>try exact zX)|fail)
      simp [Rets, aret, Blk.cells, ty, Tryz.results15, ares, toT1, toT, borrow, borrow0, capCell, toTree0, tint]
end Go.Proofs.YtfkegnhpihoncaaGreat
set_option linter.all false
namespace Go.Proofs.YtfkegnhpihoncaaGreat
open Go.Sp
set_option linter.unusedSimpArgs false
set_option linter.unusedVariables false
def leastGo (l : List Int) : Nat → Nat
  | 0 => 0
  | k + 1 => if l.getD (k + 1) 0 < l.getD (leastGo l k) 0 then k + 1 else leastGo l k
theorem leastGo_spec (l : List Int) : ∀ k : Nat, leastGo l k ≤ k ∧ (∀ i, i ≤ k → l.getD (leastGo l k) 0 ≤ l.getD i 0) ∧ ∀ i, i < leastGo l k → l.getD (leastGo l k) 0 < l.getD i 0
  | 0 => ⟨Nat.le_refl _, fun i hi => by rw [show i = 0 by omega]; exact Int.le_refl _, fun i hi => absurd hi (Nat.not_lt_zero _)⟩
  | k + 1 => by
    obtain ⟨h1, h2, h3⟩ := leastGo_spec l k
    simp only [leastGo]
    split
    · rename_i h
      refine ⟨Nat.le_refl _, fun i hi => ?_, fun i hi => ?_⟩
      · rcases Nat.lt_or_eq_of_le hi with h4 | h4
        · have := h2 i (by omega); omega
        · subst h4; exact Int.le_refl _
      · have := h2 i (by omega); omega
    · rename_i h
      refine ⟨by omega, fun i hi => ?_, h3⟩
      rcases Nat.lt_or_eq_of_le hi with h4 | h4
      · exact h2 i (by omega)
      · subst h4; omega
def leastN (l : List Int) : Nat := leastGo l (l.length - 1)
def turnL (l : List Int) : List Int := l.drop (leastN l) ++ l.take (leastN l)
theorem leastN_lt {l : List Int} (h : l ≠ []) : leastN l < l.length := by
  have := (leastGo_spec l (l.length - 1)).1
  have := List.length_pos_iff.2 h
  unfold leastN; omega
theorem turnL_nil : turnL [] = [] := rfl
def mirL (ar : List (List Int)) : List (List Int) := ar.map fun l => turnL l.reverse
def facesR (r : R) : List (List Nat) := if (endsL r.es).length = 0 then [[]] else facesN (fR (endsL r.es) r.ar) (2 * (endsL r.es).length) (2 * (endsL r.es).length)
def genusR (r : R) : Int := Int.tdiv (2 - r.n + (endsL r.es).length - (facesR r).length) 2
end Go.Proofs.YtfkegnhpihoncaaGreat
