/- A part of the proof: contracts of functions of the program, and plain lemmas. -/
import Derived.Test.YtfkegnhpihoncaaGreatPart15
import Derived.Test.YtfkegnhpihoncaaGreatPart03
import Derived.Test.YtfkegnhpihoncaaGreatLayerC
import Derived.Test.YtfkegnhpihoncaaGreatPart14
import Derived.Test.YtfkegnhpihoncaaGreatPart10
set_option linter.all false
namespace Go.Proofs.YtfkegnhpihoncaaGreat
open Go.Sp
set_option linter.unusedSimpArgs false
set_option linter.unusedVariables false
set_option maxHeartbeats 4000000
set_option maxRecDepth 100000
theorem xor_one (h : Nat) : h ^^^ 1 = oppH h := by
  have h1 : (h ^^^ 1) / 2 = h / 2 := by
    have := Nat.xor_div_two (a := h) (b := 1)
    simpa using this
  have h2 : (h ^^^ 1) % 2 = 1 - h % 2 := by
    rcases Nat.mod_two_eq_zero_or_one h with e | e
    · have : (h ^^^ 1) % 2 = 1 := by rw [Nat.xor_mod_two_eq_one]; simp [e]
      omega
    · have : ¬ (h ^^^ 1) % 2 = 1 := by rw [Nat.xor_mod_two_eq_one]; simp [e]
      omega
  unfold oppH; omega
theorem xor_bits (h : Nat) (hh : h < 2 ^ 40) : IntKind.i64.wrap (((BitVec.ofInt IntKind.i64.bits (h : Int) ^^^ BitVec.ofInt IntKind.i64.bits 1).toNat : Nat) : Int) = ((oppH h : Nat) : Int) := by
  have e1 : (BitVec.ofInt IntKind.i64.bits (h : Int)).toNat = h := by
    rw [BitVec.toNat_ofInt]
    show ((h : Int) % ((2 ^ 64 : Nat) : Int)).toNat = h
    omega
  have e2 : (BitVec.ofInt IntKind.i64.bits 1).toNat = 1 := by decide
  rw [BitVec.toNat_xor, e1, e2, xor_one]
  exact wrap_in ⟨by omega, by unfold oppH; omega⟩
theorem opposite_ok (h : Nat) (hh : h < 2 ^ 40) : ACall Tryz.prog 59 [tint h] (tint (oppH h : Nat)) := by
  have hx : ibit .xor .i64 (h : Int) 1 = ((oppH h : Nat) : Int) := xor_bits h hh
  refine ACall.of_body Tryz.func59 rfl (by kernel_rfl) ?_
  simp only [entry, Tryz.ntmps59, tint]
  refine zU ?_
  refine zR (zc @hx trivial) trivial trivial ?_
  simp [Rets, aret, Blk.cells, ty, Tryz.results59, ares, toT1, toT, borrow, borrow0, capCell, toTree0, tint]
@[simp] theorem it_zero (f : Nat → Nat) (s : Nat) : it f 0 s = s := rfl
def itemsN (l : List Nat) : List (List TVal) := l.map fun x : Nat => [tint (x : Int)]
theorem itemsN_len (l : List Nat) : (itemsN l).length = l.length := by simp [itemsN]
theorem itemsN_get {l : List Nat} {i x : Nat} (h : l[i]? = some x) : (itemsN l)[i]? = some [tint (x : Int)] := by simp [itemsN, h]
theorem itemsN_inv {l : List Nat} {i : Nat} {ts : List TVal} (h : (itemsN l)[i]? = some ts) : ∃ x, l[i]? = some x ∧ ts = [tint (x : Int)] := by
  simp only [itemsN, List.getElem?_map] at h
  cases hl : l[i]? with
  | none => simp [hl] at h
  | some p => simp [hl] at h; exact ⟨p, rfl, h.symm⟩
theorem orbit1_ok {N : Nat} {f : Nat → Nat} (hp : PermN N f) (hN : N < 2 ^ 30) (nexts : List Int) (hnl : nexts.length = N) (hev : ∀ x, x < N → oppH x < N) (hnx : ∀ x, x < N → nexts[oppH x]? = some ((f x : Nat) : Int)) (s : Nat) (hs : s < N) :
    AIter Tryz.prog 133 [.rptr [.int .i64 (s : Int)], .rptr [.slice (iRows nexts)]] (itemsN (faceF f N s)) := by
  obtain ⟨p, h1, h2, h3, h4, h5⟩ := face_spec hp hs
  rw [h5]
  have hget : ∀ k, k < p → (itemsN ((List.range p).map fun i => it f i s))[k]? = some [tint ((it f k s : Nat) : Int)] := fun k hk => itemsN_get (by simp [hk])
  have hlenI : (itemsN ((List.range p).map fun i => it f i s)).length = p := by rw [itemsN_len]; simp
  generalize itemsN ((List.range p).map fun i => it f i s) = xs at *
  refine AIter.of_body Tryz.func133 rfl (by kernel_rfl) rfl (fun l J Jx hJ hJx hY => ?_)
  simp only [entry, Tryz.ntmps133, ofT, ofT1, ofTree, List.map_cons, List.map_nil, List.length_cons, List.length_nil, Nat.reduceAdd, Nat.reduceSub, List.replicate_succ, List.replicate_zero, List.cons_append, List.nil_append]
  refine zR trivial trivial trivial ?_
  refine AWp.loopS (α:=Nat) 20 (fun k=>[(0,.c (.yld l)),(1,.c (.rptr [.int .i64 (s : Int)])),(2,.c (.rptr [.slice (iRows nexts)])),(4,.c (.int .i64 ((it f k s : Nat) : Int))),(5,.c (.bool (decide (k = 0) || decide (k < p))))]) (fun k=>[.ghost (J k)]) (fun k=>k ≤ p) (fun k=>p - k) (0) (hk:=Weak.headL 1 20 [0, 1, 2, 4, 5] zW) (h0:=?_) (round:=fun k hI=>?_)
  · exact Nat.zero_le _
  · have hk : k ≤ p := hI
    clear hI
    by_cases hlt : k < p
    · have hgk := hget k hlt
      have hxl := hp.it_lt hs k
      have hO := opposite_ok (it f k s) (by omega)
      have hol := hev _ hxl
      have hnk := iRows_get (hnx _ hxl)
      have hit : f (it f k s) = it f (k + 1) s := rfl
      rw [hit] at hnk
      have hmore : (((it f (k + 1) s : Nat) : Int) = (s : Int)) ↔ ¬ (k + 1 < p) := by
        constructor
        · intro e hc
          exact h4 (k + 1) (by omega) hc (by omega)
        · intro hc
          have : k + 1 = p := by omega
          rw [this, h3]
      have hdec : (decide (k = 0) || decide (k < p)) = true := by simp [hlt]
      rw [hdec]
      have holI : ((oppH (it f k s) : Nat) : Int) < (nexts.length : Int) := by omega
      repeat' (first|((with_reducible refine AWp.seq (AWp.of_reg (id:=4) (AReg.pre 2 (fun K hK=>?_))));simp only [List.take_succ_cons,List.take_zero])|((with_reducible refine AWp.of_reg (id:=4) (AReg.pre 2 (fun K hK=>?_)));simp only [List.take_succ_cons,List.take_zero])|((first|(refine zT ?_;intro K' hK')|(refine zG ?_ ?_<;>(try refine zH ?_)<;>intro hguard<;>(try exact zX)<;>try intro K' hK'))<;>((try simp +contextual only [go_sem]);(repeat' first|(with_reducible refine hK' _ _ ?_;clear hK' K')|exact zY|with_reducible refine And.intro ?_ ?_|(with_reducible intro hpath;try exact zP)|(refine hK' _ _ ?_;clear hK' K')|fail);try refine zS ?_))|(refine zE ?_;refine hK _ _ ?_;clear hK K)|(refine zN ?_;try refine zS ?_)|refine zA ?_|(refine zB ?_;intro K hK)|(refine zC ?_ ?_<;>(try refine zH ?_)<;>intro hcond<;>try exact zX)|fail)
      simp only [List.drop_succ_cons, List.drop_zero]
      refine AReg.yield rfl rfl rfl (by rfl) (by with_unfolding_all rfl) (by simp [okBlk]) (hY _ _ hgk) (hJ _) hJx ?_ ?_ <;> (try refine zS ?_) <;> refine AReg.rest (fun K hK => ?_)
      ·
        repeat' (first|((first|(refine zT ?_;intro K' hK')|(refine zG ?_ ?_<;>(try refine zH ?_)<;>intro hguard<;>(try exact zX)<;>try intro K' hK'))<;>((try simp +contextual only [go_sem, iRows_len, holI, hnk, Int.toNat_natCast]);(repeat' first|(with_reducible refine hK' _ _ ?_;clear hK' K')|(with_reducible refine zK hO ?_;try simp +contextual only [go_sem, iRows_len, holI, hnk, Int.toNat_natCast])|exact zY|with_reducible refine And.intro ?_ ?_|(with_reducible intro hpath;try exact zP)|(refine hK' _ _ ?_;clear hK' K')|fail);try refine zS ?_))|(refine zE ?_;refine hK _ _ ?_;clear hK K)|(refine zN ?_;try refine zS ?_)|refine zA ?_|(refine zB ?_;intro K hK)|(refine zC ?_ ?_<;>(try refine zH ?_)<;>intro hcond<;>try exact zX)|fail)
        have hb : (!decide (((it f (k + 1) s : Nat) : Int) = (s : Int))) = (decide (k + 1 = 0) || decide (k + 1 < p)) := by
          by_cases hc : k + 1 < p
          · rw [decide_eq_true hc, decide_eq_false (fun e => (hmore.1 e) hc)]; simp
          · rw [decide_eq_false hc, decide_eq_true (hmore.2 hc)]; simp
        rw [hb]
        refine ⟨k + 1,Weak.headN 1 20 [0, 1, 2, 4, 5] zW,?_,?_⟩
        · exact hlt
        · omega
      ·
        repeat' (first|((first|(refine zT ?_;intro K' hK')|(refine zG ?_ ?_<;>(try refine zH ?_)<;>intro hguard<;>(try exact zX)<;>try intro K' hK'))<;>((try simp +contextual only [go_sem]);(repeat' first|(with_reducible refine hK' _ _ ?_;clear hK' K')|exact zY|with_reducible refine And.intro ?_ ?_|(with_reducible intro hpath;try exact zP)|(refine hK' _ _ ?_;clear hK' K')|fail);try refine zS ?_))|(refine zE ?_;refine hK _ _ ?_;clear hK K)|(refine zN ?_;try refine zS ?_)|refine zA ?_|(refine zB ?_;intro K hK)|(refine zC ?_ ?_<;>(try refine zH ?_)<;>intro hcond<;>try exact zX)|fail)
        exact ⟨True.intro, _, .inr rfl⟩
    · have ek : k = p := by omega
      have hdec : (decide (k = 0) || decide (k < p)) = false := by simp; omega
      rw [hdec]
      refine zR trivial trivial trivial ?_
      exact ⟨True.intro, _, .inl (by rw [hlenI, ek])⟩
theorem orbit_ok (nexts : List Int) (s : Nat) : ACall Tryz.prog 91 [tints nexts, tint s] (.t (.fn 133 [.rptr [.int .i64 (s : Int)], .rptr [.slice (iRows nexts)]])) := by
  refine ACall.of_body Tryz.func91 rfl (by kernel_rfl) ?_
  simp only [entry, Tryz.ntmps91, tints, tint]
  refine zU ?_
  refine zR trivial trivial trivial ?_
  simp [Rets, aret, Blk.cells, ty, Tryz.results91, ares, toT1, toT, borrow, borrow0, capCell, toTree0]
end Go.Proofs.YtfkegnhpihoncaaGreat
set_option linter.all false
namespace Go.Proofs.YtfkegnhpihoncaaGreat
open Go.Sp
set_option linter.unusedSimpArgs false
set_option linter.unusedVariables false
set_option maxHeartbeats 4000000
set_option maxRecDepth 100000
end Go.Proofs.YtfkegnhpihoncaaGreat
set_option linter.all false
namespace Go.Proofs.YtfkegnhpihoncaaGreat
open Go.Sp
set_option linter.unusedSimpArgs false
set_option linter.unusedVariables false
set_option maxHeartbeats 4000000
set_option maxRecDepth 100000
theorem CloneI_ok (l : List Int) (hne : l ≠ []) (hl : l.length < 2 ^ 30) : ACallN Tryz.prog 64 [tints l] 1 (iRows l) := by
  have hrn : iRows l ≠ [] := by simpa [iRows] using hne
  have hrl : (iRows l).length = l.length := iRows_len l
  have hrk : ∀ r, r ∈ iRows l → r.length = 1 := fun r hr => iRows_k' hr
  have hrf : ∀ r, r ∈ iRows l → flatRow r = true := fun r hr => by obtain ⟨x, _, rfl⟩ := List.mem_map.1 hr; rfl
  refine ACallN.of_body Tryz.func64 rfl (by kernel_rfl) hrk (by decide) hrn hrf ?_
  simp only [entry, Tryz.ntmps64, tints, ofT, ofT1, ofTree, List.map_cons, List.map_nil, List.length_cons, List.length_nil, Nat.reduceAdd, Nat.reduceSub, List.replicate_succ, List.replicate_zero, List.cons_append, List.nil_append]
  generalize iRows l = rows at *
  repeat' (first|((first|(refine zT ?_;intro K' hK')|(refine zG ?_ ?_<;>(try refine zH ?_)<;>intro hguard<;>(try exact zX)<;>try intro K' hK'))<;>((try simp +contextual only [go_sem, hrl, chunks, List.range, List.range.loop]);(repeat' first|(with_reducible refine hK' _ _ ?_;clear hK' K')|(exact hrn)|(with_reducible exact hrk _ (by assumption))|(exact .inr True.intro)|exact zY|with_reducible refine And.intro ?_ ?_|(with_reducible intro hpath;try exact zP)|(refine hK' _ _ ?_;clear hK' K')|fail);try refine zS ?_))|(refine zE ?_;refine hK _ _ ?_;clear hK K)|(refine zN ?_;try refine zS ?_)|refine zA ?_|(refine zB ?_;intro K hK)|(refine zC ?_ ?_<;>(try refine zH ?_)<;>intro hcond<;>try exact zX)|fail)
  simp [RetsN, Tryz.results64]
theorem CloneI_none : ACall Tryz.prog 64 [tints []] (tints []) := by
  refine ACall.of_body Tryz.func64 rfl (by kernel_rfl) ?_
  simp only [entry, Tryz.ntmps64, tints, iRows]
  refine zU ?_
  repeat' (first|((with_reducible refine AWp.seq (AWp.of_reg (id:=1) (AReg.pre 1 (fun K hK=>?_))));simp only [List.take_succ_cons,List.take_zero])|((with_reducible refine AWp.of_reg (id:=1) (AReg.pre 1 (fun K hK=>?_)));simp only [List.take_succ_cons,List.take_zero])|((first|(refine zT ?_;intro K' hK')|(refine zG ?_ ?_<;>(try refine zH ?_)<;>intro hguard<;>(try exact zX)<;>try intro K' hK'))<;>((try simp +contextual only [go_sem]);(repeat' first|(with_reducible refine hK' _ _ ?_;clear hK' K')|exact zY|with_reducible refine And.intro ?_ ?_|(with_reducible intro hpath;try exact zP)|(refine hK' _ _ ?_;clear hK' K')|fail);try refine zS ?_))|(refine zE ?_;refine hK _ _ ?_;clear hK K)|(refine zN ?_;try refine zS ?_)|refine zA ?_|(refine zB ?_;intro K hK)|(refine zC ?_ ?_<;>(try refine zH ?_)<;>intro hcond<;>try exact zX)|fail)
  simp only [List.drop_succ_cons, List.drop_zero]
  refine AReg.nilq (e := 3) false rfl rfl rfl (by simp only [ty]) rfl rfl (fun b => AReg.rest (fun K hK => ?_))
  cases b
  ·
    repeat' (first|((first|(refine zT ?_;intro K' hK')|(refine zG ?_ ?_<;>(try refine zH ?_)<;>intro hguard<;>(try exact zX)<;>try intro K' hK'))<;>((try simp +contextual only [go_sem, List.length_nil, chunks, List.range, List.range.loop, List.map_nil]);(repeat' first|(with_reducible refine hK' _ _ ?_;clear hK' K')|(exact .inr True.intro)|(exact absurd True.intro (by assumption))|exact zY|with_reducible refine And.intro ?_ ?_|(with_reducible intro hpath;try exact zP)|(refine hK' _ _ ?_;clear hK' K')|fail);try refine zS ?_))|(refine zE ?_;refine hK _ _ ?_;clear hK K)|(refine zN ?_;try refine zS ?_)|refine zA ?_|(refine zB ?_;intro K hK)|(refine zC ?_ ?_<;>(try refine zH ?_)<;>intro hcond<;>try exact zX)|fail)
    simp [Rets, aret, Blk.cells, ty, Tryz.results64, ares, toT1, toT, borrow, borrow0, capCell, toTree0, tints, iRows]
  ·
    repeat' (first|((first|(refine zT ?_;intro K' hK')|(refine zG ?_ ?_<;>(try refine zH ?_)<;>intro hguard<;>(try exact zX)<;>try intro K' hK'))<;>((try simp +contextual only [go_sem]);(repeat' first|(with_reducible refine hK' _ _ ?_;clear hK' K')|exact zY|with_reducible refine And.intro ?_ ?_|(with_reducible intro hpath;try exact zP)|(refine hK' _ _ ?_;clear hK' K')|fail);try refine zS ?_))|(refine zE ?_;refine hK _ _ ?_;clear hK K)|(refine zN ?_;try refine zS ?_)|refine zA ?_|(refine zB ?_;intro K hK)|(refine zC ?_ ?_<;>(try refine zH ?_)<;>intro hcond<;>try exact zX)|fail)
    simp [Rets, aret, Blk.cells, ty, Tryz.results64, ares, toT1, toT, borrow, borrow0, capCell, toTree0, tints, iRows]
theorem ReverseI_none : ACall Tryz.prog 65 [tints []] (.tup []) := by
  refine ACall.of_body Tryz.func65 rfl (by kernel_rfl) ?_
  simp only [entry, Tryz.ntmps65, tints, iRows]
  refine zU ?_
  refine zR trivial trivial trivial ?_
  refine AWp.loopS (α:=Unit) 28 (fun k=>[(0,.c (.slice [] .none)),(2,.c (.int .i64 0)),(3,.c (.int .i64 (-1)))]) (fun k=>[]) (fun k=>True) (fun k=>0) (()) (hk:=Weak.headL 0 28 [0, 2, 3] (by (repeat' (first | exact valsIn_nil _ | exact blksIn_nil _ | exact cellsIn_nil _ | refine And.intro ?_ ?_ | refine valsIn_cons ?_ ?_ | refine blksIn_cons ?_ ?_ | refine cellsIn_cons ?_ ?_ | exact True.intro | exact pre_in hpre | (show _ < _; omega) | exact cellsIn_map (fun _ => True.intro) | (intro c hc; cases hc; done) | (intro c hc; simp only [List.mem_cons, List.not_mem_nil, or_false] at hc; subst hc; exact True.intro) | (intro c hc; simp only [List.mem_cons, List.not_mem_nil, or_false] at hc; rcases hc with rfl | rfl <;> exact True.intro))))) (h0:=?_) (round:=fun k hI=>?_)
  · trivial
  ·
    refine zR trivial trivial trivial ?_
    simp [Rets, aret, Blk.cells, ty, Tryz.results65, ares, toT1, toT, borrow, borrow0, capCell, toTree0]
def swapI (l : List Int) : Nat → List Int
  | 0 => l
  | i + 1 => ((swapI l i).set i ((swapI l i)[l.length - 1 - i]?.getD 0)).set (l.length - 1 - i) ((swapI l i)[i]?.getD 0)
@[simp] theorem swapI_zero (l : List Int) : swapI l 0 = l := rfl
theorem swapI_len (l : List Int) (i : Nat) : (swapI l i).length = l.length := by
  induction i with
  | zero => rfl
  | succ i ih => simp [swapI, ih]
theorem swapI_get (l : List Int) (i : Nat) (hi : 2 * i ≤ l.length) : ∀ k : Nat, k < l.length → (swapI l i)[k]? = if k < i ∨ l.length - i ≤ k then l[l.length - 1 - k]? else l[k]? := by
  induction i with
  | zero => intro k hk; rw [if_neg (by omega)]; rfl
  | succ i ih =>
    intro k hk
    have ih := ih (by omega)
    have h1 : i < l.length := by omega
    have h2 : l.length - 1 - i < l.length := by omega
    have e1 : (swapI l i)[i]? = l[i]? := by rw [ih i h1, if_neg (by omega)]
    have e2 : (swapI l i)[l.length - 1 - i]? = l[l.length - 1 - i]? := by rw [ih _ h2, if_neg (by omega)]
    simp only [swapI, e1, e2]
    by_cases hk1 : k = l.length - 1 - i
    · subst hk1
      rw [List.getElem?_set_self (by simp [swapI_len]; omega), if_pos (by omega), show l.length - 1 - (l.length - 1 - i) = i by omega, List.getElem?_eq_getElem h1]
      rfl
    · rw [List.getElem?_set_ne (by omega)]
      by_cases hk2 : k = i
      · subst hk2
        rw [List.getElem?_set_self (by simp [swapI_len]; omega), if_pos (by omega), List.getElem?_eq_getElem h2]
        rfl
      · rw [List.getElem?_set_ne (by omega), ih k hk]
        by_cases hc : k < i ∨ l.length - i ≤ k
        · rw [if_pos hc, if_pos (by omega)]
        · rw [if_neg hc, if_neg (by omega)]
theorem swapI_rev (l : List Int) (i : Nat) (h1 : 2 * i ≤ l.length) (h2 : l.length ≤ 2 * i + 1) : swapI l i = l.reverse := by
  refine List.ext_getElem? fun k => ?_
  by_cases hk : k < l.length
  · rw [swapI_get l i h1 k hk, List.getElem?_reverse hk]
    by_cases hc : k < i ∨ l.length - i ≤ k
    · rw [if_pos hc]
    · rw [if_neg hc, show l.length - 1 - k = k by omega]
  · rw [List.getElem?_eq_none (by rw [swapI_len]; omega), List.getElem?_eq_none (by simp; omega)]
theorem pre_in {m : Nat} {pre : List Blk} {B : List Int} (hpre : ∀ b, b ∈ pre → blkIn (pre.length + 1) b) (hm : m = pre.length + 1 := by rfl) : blksIn m (pre ++ [.box (iC B)]) := by
  subst hm
  intro b hb
  rcases List.mem_append.1 hb with hb | hb
  · exact hpre b hb
  · obtain rfl := List.mem_singleton.1 hb
    exact iC_in
@[simp] theorem take_pre (pre : List Blk) (X : Blk) : (pre ++ [X]).take (pre.length + 1) = pre ++ [X] := List.take_of_length_le (by simp)
theorem ReverseI_ok (l : List Int) (hl : l.length < 2 ^ 30) (pre : List Blk) (hpre : ∀ b, b ∈ pre → blkIn (pre.length + 1) b) :
    ACallH Tryz.prog 65 (pre ++ [.box (iC l)]) [.c (.ref pre.length 1 0 l.length l.length)] (pre ++ [.box (iC l.reverse)]) (.tup []) := by
  have hgt : ∀ X : Blk, (pre ++ [X])[pre.length]? = some X := fun X => by simp
  have hst : ∀ X Y : Blk, (pre ++ [X]).set pre.length Y = pre ++ [Y] := fun X Y => by rw [List.set_append_right _ _ (Nat.le_refl _), Nat.sub_self]; rfl
  have htk : ∀ X : Blk, (pre ++ [X]).take (pre.length + 1) = pre ++ [X] := fun X => List.take_of_length_le (by simp)
  refine ACallH.of_body Tryz.func65 rfl (by kernel_rfl) ?_
  simp only [entry, Tryz.ntmps65, List.length_cons, List.length_nil, Nat.reduceAdd, Nat.reduceSub, List.replicate_succ, List.replicate_zero, List.cons_append, List.nil_append]
  have hlen : (pre ++ [Blk.box (iC l)]).length = pre.length + 1 := by simp
  rw [hlen]
  refine zR trivial trivial trivial ?_
  refine AWp.loopS (α:=Nat) 28 (fun i=>[(0,.c (.ref pre.length 1 0 l.length l.length)),(2,.c (.int .i64 (i : Int))),(3,.c (.int .i64 ((l.length : Int) - 1 - i)))]) (fun i=>pre ++ [.box (iC (swapI l i))]) (fun i=>2 * i ≤ l.length) (fun i=>l.length - i) (0) (hk:=Weak.headL (pre.length + 1) 28 [0, 2, 3] (by (repeat' (first | exact valsIn_nil _ | exact blksIn_nil _ | exact cellsIn_nil _ | refine And.intro ?_ ?_ | refine valsIn_cons ?_ ?_ | refine blksIn_cons ?_ ?_ | refine cellsIn_cons ?_ ?_ | exact True.intro | exact pre_in hpre | (show _ < _; omega) | exact cellsIn_map (fun _ => True.intro) | (intro c hc; cases hc; done) | (intro c hc; simp only [List.mem_cons, List.not_mem_nil, or_false] at hc; subst hc; exact True.intro) | (intro c hc; simp only [List.mem_cons, List.not_mem_nil, or_false] at hc; rcases hc with rfl | rfl <;> exact True.intro))))) (h0:=?_) (round:=fun i hI=>?_)
  · exact Nat.zero_le _
  · have hP := swapI_len l i
    by_cases hlt : (i : Int) < (l.length : Int) - 1 - i
    · have hj : ((l.length : Int) - 1 - i).toNat = l.length - 1 - i := by omega
      have q1 : (i : Int) < l.length := by omega
      have q2 : (l.length : Int) - 1 - i < l.length := by omega
      have q3 : 0 ≤ (l.length : Int) - 1 - i := by omega
      have e1 : (swapI l i)[i]? = some (swapI l i)[i] := List.getElem?_eq_getElem _
      have e2 : (swapI l i)[l.length - 1 - i]? = some (swapI l i)[l.length - 1 - i] := List.getElem?_eq_getElem (by omega)
      have d1 := iC_drop e1
      have d2 := iC_drop e2
      have g1 := iC_get e1
      have g2 := iC_get e2
      have hs : swapI l (i + 1) = ((swapI l i).set i ((swapI l i)[l.length - 1 - i])).set (l.length - 1 - i) ((swapI l i)[i]) := by
        simp only [swapI, e1, e2, Option.getD_some]
      generalize (swapI l i)[i] = x at *
      generalize (swapI l i)[l.length - 1 - i] = y at *
      generalize swapI l i = R at *
      generalize hjj : l.length - 1 - i = j at *
      repeat' (first|((first|(refine zT ?_;intro K' hK')|(refine zG ?_ ?_<;>(try refine zH ?_)<;>intro hguard<;>(try exact zX)<;>try intro K' hK'))<;>((try simp +contextual only [go_sem, hlt, hj, q1, q2, q3, d1, d2, g1, g2, Int.toNat_natCast, Nat.mul_one, iC_set, iC_len, hP, List.length_set, hgt, hst]);(repeat' first|(with_reducible refine hK' _ _ ?_;clear hK' K')|exact zY|with_reducible refine And.intro ?_ ?_|(with_reducible intro hpath;try exact zP)|(refine hK' _ _ ?_;clear hK' K')|fail);try refine zS ?_))|(refine zE ?_;refine hK _ _ ?_;clear hK K)|(refine zN ?_;try refine zS ?_)|refine zA ?_|(refine zB ?_;intro K hK)|(refine zC ?_ ?_<;>(try refine zH ?_)<;>intro hcond<;>try exact zX)|fail)
      refine ⟨i + 1,Weak.headF (pre.length + 1) 28 [0, 2, 3] (zc @hs (zc @htk trivial)) (by (repeat' (first | exact valsIn_nil _ | exact blksIn_nil _ | exact cellsIn_nil _ | refine And.intro ?_ ?_ | refine valsIn_cons ?_ ?_ | refine blksIn_cons ?_ ?_ | refine cellsIn_cons ?_ ?_ | exact True.intro | exact pre_in hpre | (show _ < _; omega) | exact cellsIn_map (fun _ => True.intro) | (intro c hc; cases hc; done) | (intro c hc; simp only [List.mem_cons, List.not_mem_nil, or_false] at hc; subst hc; exact True.intro) | (intro c hc; simp only [List.mem_cons, List.not_mem_nil, or_false] at hc; rcases hc with rfl | rfl <;> exact True.intro)))),?_,?_⟩
      · omega
      · omega
    ·
      refine zR (zc @hlt trivial) trivial trivial ?_
      have := swapI_rev l i hI (by omega)
      simp [RetsH, aretH, ares, noTup, Tryz.results65, this]
end Go.Proofs.YtfkegnhpihoncaaGreat
