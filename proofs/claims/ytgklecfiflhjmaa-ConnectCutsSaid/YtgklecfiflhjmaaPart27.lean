/- A part of the proof. -/
import Derived.Test.YtgklecfiflhjmaaPart23
import Derived.Test.YtgklecfiflhjmaaPart26
import Derived.Test.YtgklecfiflhjmaaPart13
import Derived.Test.YtgklecfiflhjmaaLayerC
set_option linter.all false
set_option maxHeartbeats 4000000
set_option maxRecDepth 100000
namespace Go.Proofs.Ytgklecfiflhjmaa
open Go.Sp
def powN (i : Nat) : Nat := 2 ^ i
def halfN (w v : Nat) : Nat := w / 2 ^ v
theorem halfN_succ (w v : Nat) : halfN w (v + 1) = halfN w v / 2 := by unfold halfN; rw [Nat.pow_succ, Nat.div_div_eq_div_mul]
theorem power_ok (n : Nat) (hn : n ≤ 30) : ACall Try.prog 64 [tint n] (tint (powN n : Int)) := by
 refine ACall.of_body Try.func64 rfl (by kernel_rfl) ?_
 simp only [entry, Try.ntmps64, tint]
 refine zU ?_
 refine zR trivial trivial trivial ?_
 refine AWp.loopS (α:=Nat) 13 (fun i=>[(0,.c (.int .i64 (n : Int))),(3,.c (.int .i64 (powN i : Int))),(4,.c (.int .i64 (i : Int)))]) (fun i=>[]) (fun i=>i ≤ n) (fun i=>n - i) (0) (hk:=Weak.headL 0 13 [0, 3, 4] zW) (h0:=?_) (round:=fun i hI=>?_)
 ·exact Nat.zero_le _
 ·have hi : i ≤ n := hI
  clear hI
  by_cases hlt : i < n
  ·have hltI : (i : Int) < (n : Int) := by omega
   have hp : powN i ≤ 2 ^ 30 := Nat.pow_le_pow_right (by omega) (by omega)
   have hs : powN (i + 1) = powN i * 2 := Nat.pow_succ 2 i
   have hsI : ((powN i : Nat) : Int) * 2 = ((powN (i + 1) : Nat) : Int) := by rw [hs]; omega
   have hr : (-9223372036854775808 : Int) ≤ ((powN (i + 1) : Nat) : Int) ∧ ((powN (i + 1) : Nat) : Int) ≤ 9223372036854775807 := by omega
   repeat' (first|((first|(refine zT ?_;intro K' hK')|(refine zG ?_ ?_<;>(try refine zH ?_)<;>intro hguard<;>(try exact zX)<;>try intro K' hK'))<;>((try simp +contextual only [go_sem, hltI, hsI]);(repeat' first|(with_reducible refine hK' _ _ ?_;clear hK' K')|exact zY|with_reducible refine And.intro ?_ ?_|(with_reducible intro hpath;try exact zP)|(refine hK' _ _ ?_;clear hK' K')|fail);try refine zS ?_))|(refine zE ?_;refine hK _ _ ?_;clear hK K)|(refine zN ?_;try refine zS ?_)|refine zA ?_|(refine zB ?_;intro K hK)|(refine zC ?_ ?_<;>(try refine zH ?_)<;>intro hcond<;>try exact zX)|fail)
   refine ⟨i + 1,Weak.headN 0 13 [0, 3, 4] zW,?_,?_⟩
   ·exact hlt
   ·omega
  ·have hnl : ¬ (i : Int) < (n : Int) := by omega
   have ei : i = n := by omega
   subst ei
   refine zR (zc @hnl trivial) trivial trivial ?_
   simp [Rets, aret, Blk.cells, ty, Try.results64, ares, toT1, toT, borrow, borrow0, capCell, toTree0, tint]
theorem tmodN (w : Nat) : Int.tmod (w : Int) 2 = ((w % 2 : Nat) : Int) := rfl
theorem tdivN (w : Nat) : Int.tdiv (w : Int) 2 = ((w / 2 : Nat) : Int) := rfl
theorem subN_ok (n w : Nat) (hn : n ≤ 60) (hw : w < 2 ^ 40) : ACall Try.prog 39 [tint n, tint w] (tints (zI (setN n w))) := by
 refine ACall.of_body Try.func39 rfl (by kernel_rfl) ?_
 simp only [entry, Try.ntmps39, tint]
 refine zU ?_
 refine zR trivial trivial trivial ?_
 refine AWp.weak (Weak.opens ((fun t f => [f, f, f, f, f, t, f, f, f, f, f, f, f, f, f, f, f, f, f, f, f, f]) true false) 1 (by first | omega | simp)) ?_
 simp only [openS, openV, List.length_cons, List.length_nil, List.length_append, Nat.reduceAdd, List.cons_append, List.nil_append]
 rw [show (w : Int) = (halfN w 0 : Int) by unfold halfN; simp]
 refine AWp.loopS (α:=Nat) 22 (fun v=>[(0,.c (.int .i64 (n : Int))),(1,.c (.int .i64 (halfN w v : Int))),(5,.c (.slice (iRows (zI (setN v w))) (.chain 0))),(6,.c (.int .i64 (v : Int)))]) (fun v=>[.chain (setN v w).length 1]) (fun v=>v ≤ n) (fun v=>n - v) (0) (hk:=Weak.headL 1 22 [0, 1, 5, 6] zW) (h0:=?_) (round:=fun v hI=>?_)
 ·exact Nat.zero_le _
 ·have hv : v ≤ n := hI
  clear hI
  by_cases hvl : v < n
  ·have hvI : (v : Int) < (n : Int) := by omega
   have hss := setN_succ v w
   have hsl2 := setN_len v w
   have hwv : halfN w v ≤ w := Nat.div_le_self _ _
   have hdv := halfN_succ w v
   have hb : bitN w v = halfN w v % 2 := rfl
   rw [hb] at hss
   generalize halfN w v = wv at *
   have m1 := tmodN wv
   have m2 := tdivN wv
   by_cases hp : wv % 2 = 1
   ·rw [if_pos hp] at hss
    have hpI : ((wv % 2 : Nat) : Int) = 1 := by omega
    have hzs := zI_snoc (setN v w) v
    rw [← hss] at hzs
    have hln : (setN (v + 1) w).length = (setN v w).length + 1 := by rw [hss]; simp
    generalize setN v w = d at *
    repeat' (first|((first|(refine zT ?_;intro K' hK')|(refine zG ?_ ?_<;>(try refine zH ?_)<;>intro hguard<;>(try exact zX)<;>try intro K' hK'))<;>((try simp +contextual only [go_sem, hvI, m1, m2, hpI, iRows_len, iRows_snoc, zI_len, Int.toNat_natCast, chunks, List.range, List.range.loop]);(repeat' first|(with_reducible refine hK' _ _ ?_;clear hK' K')|(with_reducible exact iRows_k' (by assumption))|exact zY|with_reducible refine And.intro ?_ ?_|(with_reducible intro hpath;try exact zP)|(refine hK' _ _ ?_;clear hK' K')|fail);try refine zS ?_))|(refine zE ?_;refine hK _ _ ?_;clear hK K)|(refine zN ?_;try refine zS ?_)|refine zA ?_|(refine zB ?_;intro K hK)|(refine zC ?_ ?_<;>(try refine zH ?_)<;>intro hcond<;>try exact zX)|fail)
    rw [hzs]
    refine ⟨v + 1,Weak.headF 1 22 [0, 1, 5, 6] (zc @hln (zc @hdv trivial)) zW,?_,?_⟩
    ·exact hvl
    ·omega
   ·rw [if_neg hp] at hss
    have hpI : ¬ ((wv % 2 : Nat) : Int) = 1 := by omega
    repeat' (first|((first|(refine zT ?_;intro K' hK')|(refine zG ?_ ?_<;>(try refine zH ?_)<;>intro hguard<;>(try exact zX)<;>try intro K' hK'))<;>((try simp +contextual only [go_sem, hvI, m1, m2, hpI, iRows_len, zI_len, Int.toNat_natCast]);(repeat' first|(with_reducible refine hK' _ _ ?_;clear hK' K')|exact zY|with_reducible refine And.intro ?_ ?_|(with_reducible intro hpath;try exact zP)|(refine hK' _ _ ?_;clear hK' K')|fail);try refine zS ?_))|(refine zE ?_;refine hK _ _ ?_;clear hK K)|(refine zN ?_;try refine zS ?_)|refine zA ?_|(refine zB ?_;intro K hK)|(refine zC ?_ ?_<;>(try refine zH ?_)<;>intro hcond<;>try exact zX)|fail)
    rw [← hss]
    refine ⟨v + 1,Weak.headF 1 22 [0, 1, 5, 6] (zc @hdv trivial) zW,?_,?_⟩
    ·exact hvl
    ·omega
  ·have hnl : ¬ (v : Int) < (n : Int) := by omega
   have ev : v = n := by omega
   subst ev
   refine zR (zc @hnl trivial) trivial trivial ?_
   simp [Rets, aret, Blk.cells, ty, Try.results39, ares, toT1, toT, borrow, borrow0, capCell, toTree0, tints]
theorem befL_cmp : ∀ (a b : List Int), befL a b = true ↔ cmpLL a b < 0
 | [], [] => by simp [befL, cmpLL]
 | [], _ :: _ => by simp [befL, cmpLL]
 | _ :: _, [] => by simp [befL, cmpLL]
 | x :: a, y :: b => by
  have ih := befL_cmp a b
  have h1 := cmpI_zero (x := x) (y := y)
  have h2 := cmpI_neg (x := x) (y := y)
  show (if x = y then befL a b else decide (x < y)) = true ↔ (if cmpI x y = 0 then cmpLL a b else cmpI x y) < 0
  by_cases h : x = y
  ·rw [if_pos h, if_pos (h1.2 h)]; exact ih
  ·rw [if_neg h, if_neg (fun q => h (h1.1 q)), decide_eq_true_eq]; exact h2.symm
theorem cutL_count (set : List Int) (l : List (Int × Int)) : (cutL set l).length = l.countP (sepB set) := by
 refine snoc_ind (P := fun l => (cutL set l).length = l.countP (sepB set)) ?_ ?_ l
 ·rfl
 ·intro l p ih
  rw [cutL_snoc, List.length_append, ih, List.countP_append, List.countP_cons, List.countP_nil]
  cases sepB set p <;> simp
theorem setN_mem {n w : Nat} {x : Int} : x ∈ zI (setN n w) ↔ ∃ a : Nat, x = a ∧ a < n ∧ bitN w a = 1 := by
 unfold zI setN
 rw [List.mem_map]
 constructor
 ·rintro ⟨a, ha, rfl⟩
  rw [List.mem_filter, List.mem_range, decide_eq_true_eq] at ha
  exact ⟨a, rfl, ha.1, ha.2⟩
 ·rintro ⟨a, rfl, h1, h2⟩
  exact ⟨a, by rw [List.mem_filter, List.mem_range, decide_eq_true_eq]; exact ⟨h1, h2⟩, rfl⟩
theorem setN_in {n w a : Nat} (ha : a < n) : (a : Int) ∈ zI (setN n w) ↔ bitN w a = 1 := by
 rw [setN_mem]
 constructor
 ·rintro ⟨b, hb, _, h⟩
  have : a = b := by omega
  rw [this]; exact h
 ·intro h; exact ⟨a, rfl, ha, h⟩
theorem sepB_bit {n w a b : Nat} (ha : a < n) (hb : b < n) : sepB (zI (setN n w)) ((a : Int), (b : Int)) = !decide (bitN w a = bitN w b) := by
 unfold sepB
 simp only
 have h1 : decide ((a : Int) ∈ zI (setN n w)) = decide (bitN w a = 1) := decide_eq_decide.2 (setN_in ha)
 have h2 : decide ((b : Int) ∈ zI (setN n w)) = decide (bitN w b = 1) := decide_eq_decide.2 (setN_in hb)
 have b1 := bitN_le w a
 have b2 := bitN_le w b
 rw [h1, h2]
 generalize bitN w a = x at *
 generalize bitN w b = y at *
 rcases b1 with rfl | rfl <;> rcases b2 with rfl | rfl <;> rfl
theorem cut_size {n : Nat} (w : Nat) : ∀ {es : List E}, (∀ e, e ∈ es → (0 ≤ e.a ∧ e.a < n) ∧ (0 ≤ e.b ∧ e.b < n) ∧ 1 ≤ e.m) → ((cutL (zI (setN n w)) (endsL es)).length : Int) = cutW w es
 | [], _ => rfl
 | e :: es, h => by
  have ih := cut_size w (es := es) fun x hx => h x (by simp [hx])
  obtain ⟨h1, h2, h3⟩ := h e (by simp)
  have he : endsL (e :: es) = List.replicate e.m.toNat (e.a, e.b) ++ endsL es := by rw [← endsL_one, ← endsL_append]; rfl
  rw [cutL_count] at ih ⊢
  rw [he, List.countP_append, List.countP_replicate]
  simp only [cutW]
  obtain ⟨a, ha⟩ := Int.eq_ofNat_of_zero_le h1.1
  obtain ⟨b, hb⟩ := Int.eq_ofNat_of_zero_le h2.1
  have hs := sepB_bit (n := n) (w := w) (a := a) (b := b) (by omega) (by omega)
  rw [ha, hb, hs, Int.toNat_natCast, Int.toNat_natCast]
  by_cases hbit : bitN w a = bitN w b
  ·rw [if_pos hbit, decide_eq_true hbit]; simp; omega
  ·rw [if_neg hbit, decide_eq_false hbit]; simp; omega
theorem connW_two (n : Nat) (es : List E) (k : Nat) : connW n es (2 * (k + 1) + 1) = connStep n es (connW n es (2 * k + 1)) (2 * k + 1) := by
 rw [show 2 * (k + 1) + 1 = (2 * k + 1 + 1) + 1 by omega, connW_succ, connW_succ n es (2 * k + 1)]
 conv => lhs; unfold connStep
 rw [if_pos (by omega)]
 rfl
theorem refConnectivity_ok (g : G) (n : Nat) (hc : checkG g = 0) (hn : g.n = n) (hl : g.es.length ≤ 40) : ACall Try.prog 25 [tG g] (.tup [tint (connW n g.es (2 ^ n - 1)).1, tints (zI (connW n g.es (2 ^ n - 1)).2)]) := by
 have h12 := (checkG_zero.1 hc).1
 have hoe := (checkG_zero.1 hc).2.1
 have hm : ∀ e, e ∈ g.es → 1 ≤ e.m ∧ e.m ≤ 50 := fun e he => by have := hoe e he; unfold okE at this; omega
 have hsz := fun w => cut_size (n := n) w (es := g.es) fun e he => by have := hoe e he; unfold okE at this; omega
 have hCut := fun set (hs : set.length < 2 ^ 40) => CutR_ok g set (sm_of (by omega) hc) hs
 have hP := power_ok n (by omega)
 have hSub := fun w (hw : w < 2 ^ 40) => subN_ok n w (by omega) hw
 obtain ⟨nI, es⟩ := g
 simp only at hn h12 hl hm hsz hCut ⊢
 subst hn
 have hn12 : n ≤ 12 := by omega
 have hpw := pow12 hn12
 have hev : 2 ^ n % 2 = 0 := by
  obtain ⟨k, rfl⟩ : ∃ k, n = k + 1 := ⟨n - 1, by omega⟩
  rw [Nat.pow_succ]; omega
 have hPw : powN n = 2 ^ n := rfl
 rw [hPw] at hP
 generalize 2 ^ n = P at *
 have hPm : (P : Int) - 1 = ((P - 1 : Nat) : Int) := by omega
 refine ACall.of_body Try.func25 rfl (by kernel_rfl) ?_
 simp only [entry, Try.ntmps25, tG]
 refine zU ?_
 refine zR trivial trivial trivial ?_
 refine AWp.weak (Weak.untok 5 rfl) ?_
 simp only [List.set_cons_succ, List.set_cons_zero]
 have h00 : connW n es 1 = (-1, []) := by unfold connW; rfl
 refine AWp.loopS (α:=Nat) 47 (fun k=>[(1,.c (.ptr 0 0)),(4,.c (.int .i64 (connW n es (2 * k + 1)).1)),(5,.c (.slice (iRows (zI (connW n es (2 * k + 1)).2)) .none)),(6,.c (.int .i64 ((2 * k + 1 : Nat) : Int)))]) (fun k=>[.box [.int .i64 (n : Int), .slice (eRows es) .none]]) (fun k=>2 * k + 1 ≤ P - 1) (fun k=>P - 1 - 2 * k) (0) (hk:=Weak.headL 1 47 [1, 4, 5, 6] zW) (h0:=?_) (round:=fun k hI=>?_)
 ·show 2 * 0 + 1 ≤ P - 1
  omega
 ·have hw : 2 * k + 1 ≤ P - 1 := hI
  clear hI
  by_cases hwl : 2 * k + 1 < P - 1
  ·have hwI : ((2 * k + 1 : Nat) : Int) < ((P - 1 : Nat) : Int) := by omega
   have hsu := connW_two n es k
   have hbd := connW_bound hm n (2 * k + 1)
   have hcw := cutW_bound hm (2 * k + 1)
   have hsz1 := hsz (2 * k + 1)
   have hSub1 := hSub (2 * k + 1) (by omega)
   have hsl := setN_len n (2 * k + 1)
   have hCut1 := hCut (zI (setN n (2 * k + 1))) (by rw [zI_len]; omega)
   have hBf := Before_ok (zI (setN n (2 * k + 1))) (zI (connW n es (2 * k + 1)).2) (by rw [zI_len]; omega) (by rw [zI_len]; omega)
   have hcmp := befL_cmp (zI (setN n (2 * k + 1))) (zI (connW n es (2 * k + 1)).2)
   have hw2 : ((2 * k + 1 : Nat) : Int) + 2 = ((2 * (k + 1) + 1 : Nat) : Int) := by omega
   unfold connStep at hsu
   rw [if_neg (by omega)] at hsu
   generalize connW n es (2 * k + 1) = s at *
   obtain ⟨lst, bst⟩ := s
   simp only at hsu hbd hBf hcmp ⊢
   generalize cutL (zI (setN n (2 * k + 1))) (endsL es) = ct at *
   generalize cutW (2 * k + 1) es = sz at *
   generalize setN n (2 * k + 1) = st at *
   generalize hwn : 2 * k + 1 = w at *
   by_cases c0 : lst < 0
   ·rw [if_neg (by omega), if_pos (.inr (.inl c0))] at hsu
    repeat' (first|((first|(refine zT ?_;intro K' hK')|(refine zG ?_ ?_<;>(try refine zH ?_)<;>intro hguard<;>(try exact zX)<;>try intro K' hK'))<;>((try simp +contextual only [go_sem, hwI, hPm, hsz1, c0, hw2, iRows_len]);(repeat' first|(with_reducible refine hK' _ _ ?_;clear hK' K')|((with_reducible first|refine zK hP ?_|refine zK hSub1 ?_|refine zK hCut1 ?_);try simp +contextual only [go_sem, hwI, hPm, hsz1, c0, hw2, iRows_len])|exact zY|with_reducible refine And.intro ?_ ?_|(with_reducible intro hpath;try exact zP)|(refine hK' _ _ ?_;clear hK' K')|fail);try refine zS ?_))|(refine zE ?_;refine hK _ _ ?_;clear hK K)|(refine zN ?_;try refine zS ?_)|refine zA ?_|(refine zB ?_;intro K hK)|(refine zC ?_ ?_<;>(try refine zH ?_)<;>intro hcond<;>try exact zX)|fail)
    refine ⟨k + 1,Weak.headF 1 47 [1, 4, 5, 6] (zc @hsu trivial) zW,?_,?_⟩
    ·show 2 * (k + 1) + 1 ≤ P - 1
     omega
    ·omega
   ·by_cases c1 : sz < lst
    ·rw [if_neg (by omega), if_pos (.inl c1)] at hsu
     repeat' (first|((first|(refine zT ?_;intro K' hK')|(refine zG ?_ ?_<;>(try refine zH ?_)<;>intro hguard<;>(try exact zX)<;>try intro K' hK'))<;>((try simp +contextual only [go_sem, hwI, hPm, hsz1, c0, c1, hw2, iRows_len]);(repeat' first|(with_reducible refine hK' _ _ ?_;clear hK' K')|((with_reducible first|refine zK hP ?_|refine zK hSub1 ?_|refine zK hCut1 ?_);try simp +contextual only [go_sem, hwI, hPm, hsz1, c0, c1, hw2, iRows_len])|exact zY|with_reducible refine And.intro ?_ ?_|(with_reducible intro hpath;try exact zP)|(refine hK' _ _ ?_;clear hK' K')|fail);try refine zS ?_))|(refine zE ?_;refine hK _ _ ?_;clear hK K)|(refine zN ?_;try refine zS ?_)|refine zA ?_|(refine zB ?_;intro K hK)|(refine zC ?_ ?_<;>(try refine zH ?_)<;>intro hcond<;>try exact zX)|fail)
     refine ⟨k + 1,Weak.headF 1 47 [1, 4, 5, 6] (zc @hsu trivial) zW,?_,?_⟩
     ·show 2 * (k + 1) + 1 ≤ P - 1
      omega
     ·omega
    ·by_cases c2 : sz = lst
     ·rw [if_neg (by omega)] at hsu
      cases hb : befL (zI st) (zI bst) with
      | true =>
       rw [hb] at hBf hcmp
       rw [if_pos (.inr (.inr (hcmp.1 rfl)))] at hsu
       repeat' (first|((first|(refine zT ?_;intro K' hK')|(refine zG ?_ ?_<;>(try refine zH ?_)<;>intro hguard<;>(try exact zX)<;>try intro K' hK'))<;>((try simp +contextual only [go_sem, hwI, hPm, hsz1, c0, c1, c2, hw2, iRows_len]);(repeat' first|(with_reducible refine hK' _ _ ?_;clear hK' K')|((with_reducible first|refine zK hP ?_|refine zK hSub1 ?_|refine zK hCut1 ?_|refine zK hBf ?_);try simp +contextual only [go_sem, hwI, hPm, hsz1, c0, c1, c2, hw2, iRows_len])|exact zY|with_reducible refine And.intro ?_ ?_|(with_reducible intro hpath;try exact zP)|(refine hK' _ _ ?_;clear hK' K')|fail);try refine zS ?_))|(refine zE ?_;refine hK _ _ ?_;clear hK K)|(refine zN ?_;try refine zS ?_)|refine zA ?_|(refine zB ?_;intro K hK)|(refine zC ?_ ?_<;>(try refine zH ?_)<;>intro hcond<;>try exact zX)|fail)
       refine ⟨k + 1,Weak.headF 1 47 [1, 4, 5, 6] (zc @hsu (zc @c2 trivial)) zW,?_,?_⟩
       ·show 2 * (k + 1) + 1 ≤ P - 1
        omega
       ·omega
      | false =>
       rw [hb] at hBf hcmp
       rw [if_neg (fun h => by rcases h with h | h | h; exact c1 h; exact c0 h; exact absurd (hcmp.2 h) (by simp))] at hsu
       repeat' (first|((first|(refine zT ?_;intro K' hK')|(refine zG ?_ ?_<;>(try refine zH ?_)<;>intro hguard<;>(try exact zX)<;>try intro K' hK'))<;>((try simp +contextual only [go_sem, hwI, hPm, hsz1, c0, c1, c2, hw2, iRows_len]);(repeat' first|(with_reducible refine hK' _ _ ?_;clear hK' K')|((with_reducible first|refine zK hP ?_|refine zK hSub1 ?_|refine zK hCut1 ?_|refine zK hBf ?_);try simp +contextual only [go_sem, hwI, hPm, hsz1, c0, c1, c2, hw2, iRows_len])|exact zY|with_reducible refine And.intro ?_ ?_|(with_reducible intro hpath;try exact zP)|(refine hK' _ _ ?_;clear hK' K')|fail);try refine zS ?_))|(refine zE ?_;refine hK _ _ ?_;clear hK K)|(refine zN ?_;try refine zS ?_)|refine zA ?_|(refine zB ?_;intro K hK)|(refine zC ?_ ?_<;>(try refine zH ?_)<;>intro hcond<;>try exact zX)|fail)
       refine ⟨k + 1,Weak.headF 1 47 [1, 4, 5, 6] (zc @hsu trivial) zW,?_,?_⟩
       ·show 2 * (k + 1) + 1 ≤ P - 1
        omega
       ·omega
     ·rw [if_pos (by omega)] at hsu
      repeat' (first|((first|(refine zT ?_;intro K' hK')|(refine zG ?_ ?_<;>(try refine zH ?_)<;>intro hguard<;>(try exact zX)<;>try intro K' hK'))<;>((try simp +contextual only [go_sem, hwI, hPm, hsz1, c0, c1, c2, hw2, iRows_len]);(repeat' first|(with_reducible refine hK' _ _ ?_;clear hK' K')|((with_reducible first|refine zK hP ?_|refine zK hSub1 ?_|refine zK hCut1 ?_);try simp +contextual only [go_sem, hwI, hPm, hsz1, c0, c1, c2, hw2, iRows_len])|exact zY|with_reducible refine And.intro ?_ ?_|(with_reducible intro hpath;try exact zP)|(refine hK' _ _ ?_;clear hK' K')|fail);try refine zS ?_))|(refine zE ?_;refine hK _ _ ?_;clear hK K)|(refine zN ?_;try refine zS ?_)|refine zA ?_|(refine zB ?_;intro K hK)|(refine zC ?_ ?_<;>(try refine zH ?_)<;>intro hcond<;>try exact zX)|fail)
      refine ⟨k + 1,Weak.headF 1 47 [1, 4, 5, 6] (zc @hsu trivial) zW,?_,?_⟩
      ·show 2 * (k + 1) + 1 ≤ P - 1
       omega
      ·omega
  ·have hnl : ¬ ((2 * k + 1 : Nat) : Int) < ((P - 1 : Nat) : Int) := by omega
   have ew : 2 * k + 1 = P - 1 := by omega
   rw [ew] at hnl ⊢
   generalize connW n es (P - 1) = s at *
   refine zR (zc @hnl (zc @hPm trivial)) (zc hP trivial) trivial ?_
   simp [Rets, aret, Blk.cells, ty, Try.results25, ares, toT1, toT, borrow, borrow0, capCell, toTree0, tint, tints]
end Go.Proofs.Ytgklecfiflhjmaa
