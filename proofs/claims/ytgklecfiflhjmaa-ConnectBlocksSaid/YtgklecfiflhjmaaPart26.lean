/- A part of the proof. -/
import Derived.Test.YtgklecfiflhjmaaPart22
import Derived.Test.YtgklecfiflhjmaaPart25
import Derived.Test.YtgklecfiflhjmaaPart13
import Derived.Test.YtgklecfiflhjmaaLayerC
import Derived.Test.YtgklecfiflhjmaaPart18
import Derived.Test.YtgklecfiflhjmaaPart20
import Derived.Test.YtgklecfiflhjmaaPart12
set_option linter.all false
set_option maxHeartbeats 4000000
set_option maxRecDepth 100000
namespace Go.Proofs.Ytgklecfiflhjmaa
open Go.Sp
def powN (i : Nat) : Nat := 2 ^ i
def halfN (w v : Nat) : Nat := w / 2 ^ v
theorem halfN_succ (w v : Nat) : halfN w (v + 1) = halfN w v / 2 := by unfold halfN; rw [Nat.pow_succ, Nat.div_div_eq_div_mul]
theorem power_ok (n : Nat) (hn : n ≤ 30) : ACall Try.prog 64 [tint n] (tint (powN n : Int)) := by
 refine ACall.of_body Try.func64 rfl (by kernel_rfl) ?_
 simp only [entry, Try.ntmps64, tint]
 refine zU ?_
 refine zR trivial trivial trivial ?_
 refine AWp.loopS (α:=Nat) 13 (fun i=>[(0,.c (.int .i64 (n : Int))),(3,.c (.int .i64 (powN i : Int))),(4,.c (.int .i64 (i : Int)))]) (fun i=>[]) (fun i=>i ≤ n) (fun i=>n - i) (0) (hk:=Weak.headL 0 13 [0, 3, 4] zW) (h0:=?_) (round:=fun i hI=>?_)
 ·exact Nat.zero_le _
 ·have hi : i ≤ n := hI
  clear hI
  by_cases hlt : i < n
  ·have hltI : (i : Int) < (n : Int) := by omega
   have hp : powN i ≤ 2 ^ 30 := Nat.pow_le_pow_right (by omega) (by omega)
   have hs : powN (i + 1) = powN i * 2 := Nat.pow_succ 2 i
   have hsI : ((powN i : Nat) : Int) * 2 = ((powN (i + 1) : Nat) : Int) := by rw [hs]; omega
   have hr : (-9223372036854775808 : Int) ≤ ((powN (i + 1) : Nat) : Int) ∧ ((powN (i + 1) : Nat) : Int) ≤ 9223372036854775807 := by omega
   repeat' (first|((first|(refine zT ?_;intro K' hK')|(refine zG ?_ ?_<;>(try refine zH ?_)<;>intro hguard<;>(try exact zX)<;>try intro K' hK'))<;>((try simp +contextual only [go_sem, hltI, hsI]);(repeat' first|(with_reducible refine hK' _ _ ?_;clear hK' K')|exact zY|with_reducible refine And.intro ?_ ?_|(with_reducible intro hpath;try exact zP)|(refine hK' _ _ ?_;clear hK' K')|fail);try refine zS ?_))|(refine zE ?_;refine hK _ _ ?_;clear hK K)|(refine zN ?_;try refine zS ?_)|refine zA ?_|(refine zB ?_;intro K hK)|(refine zC ?_ ?_<;>(try refine zH ?_)<;>intro hcond<;>try exact zX)|fail)
   refine ⟨i + 1,Weak.headN 0 13 [0, 3, 4] zW,?_,?_⟩
   ·exact hlt
   ·omega
  ·have hnl : ¬ (i : Int) < (n : Int) := by omega
   have ei : i = n := by omega
   subst ei
   refine zR (zc @hnl trivial) trivial trivial ?_
   simp [Rets, aret, Blk.cells, ty, Try.results64, ares, toT1, toT, borrow, borrow0, capCell, toTree0, tint]
theorem tmodN (w : Nat) : Int.tmod (w : Int) 2 = ((w % 2 : Nat) : Int) := rfl
theorem tdivN (w : Nat) : Int.tdiv (w : Int) 2 = ((w / 2 : Nat) : Int) := rfl
theorem subN_ok (n w : Nat) (hn : n ≤ 60) (hw : w < 2 ^ 40) : ACall Try.prog 39 [tint n, tint w] (tints (zI (setN n w))) := by
 refine ACall.of_body Try.func39 rfl (by kernel_rfl) ?_
 simp only [entry, Try.ntmps39, tint]
 refine zU ?_
 refine zR trivial trivial trivial ?_
 refine AWp.weak (Weak.opens ((fun t f => [f, f, f, f, f, t, f, f, f, f, f, f, f, f, f, f, f, f, f, f, f, f]) true false) 1 (by first | omega | simp)) ?_
 simp only [openS, openV, List.length_cons, List.length_nil, List.length_append, Nat.reduceAdd, List.cons_append, List.nil_append]
 rw [show (w : Int) = (halfN w 0 : Int) by unfold halfN; simp]
 refine AWp.loopS (α:=Nat) 22 (fun v=>[(0,.c (.int .i64 (n : Int))),(1,.c (.int .i64 (halfN w v : Int))),(5,.c (.slice (iRows (zI (setN v w))) (.chain 0))),(6,.c (.int .i64 (v : Int)))]) (fun v=>[.chain (setN v w).length 1]) (fun v=>v ≤ n) (fun v=>n - v) (0) (hk:=Weak.headL 1 22 [0, 1, 5, 6] zW) (h0:=?_) (round:=fun v hI=>?_)
 ·exact Nat.zero_le _
 ·have hv : v ≤ n := hI
  clear hI
  by_cases hvl : v < n
  ·have hvI : (v : Int) < (n : Int) := by omega
   have hss := setN_succ v w
   have hsl2 := setN_len v w
   have hwv : halfN w v ≤ w := Nat.div_le_self _ _
   have hdv := halfN_succ w v
   have hb : bitN w v = halfN w v % 2 := rfl
   rw [hb] at hss
   generalize halfN w v = wv at *
   have m1 := tmodN wv
   have m2 := tdivN wv
   by_cases hp : wv % 2 = 1
   ·rw [if_pos hp] at hss
    have hpI : ((wv % 2 : Nat) : Int) = 1 := by omega
    have hzs := zI_snoc (setN v w) v
    rw [← hss] at hzs
    have hln : (setN (v + 1) w).length = (setN v w).length + 1 := by rw [hss]; simp
    generalize setN v w = d at *
    repeat' (first|((first|(refine zT ?_;intro K' hK')|(refine zG ?_ ?_<;>(try refine zH ?_)<;>intro hguard<;>(try exact zX)<;>try intro K' hK'))<;>((try simp +contextual only [go_sem, hvI, m1, m2, hpI, iRows_len, iRows_snoc, zI_len, Int.toNat_natCast, chunks, List.range, List.range.loop]);(repeat' first|(with_reducible refine hK' _ _ ?_;clear hK' K')|(with_reducible exact iRows_k' (by assumption))|exact zY|with_reducible refine And.intro ?_ ?_|(with_reducible intro hpath;try exact zP)|(refine hK' _ _ ?_;clear hK' K')|fail);try refine zS ?_))|(refine zE ?_;refine hK _ _ ?_;clear hK K)|(refine zN ?_;try refine zS ?_)|refine zA ?_|(refine zB ?_;intro K hK)|(refine zC ?_ ?_<;>(try refine zH ?_)<;>intro hcond<;>try exact zX)|fail)
    rw [hzs]
    refine ⟨v + 1,Weak.headF 1 22 [0, 1, 5, 6] (zc @hln (zc @hdv trivial)) zW,?_,?_⟩
    ·exact hvl
    ·omega
   ·rw [if_neg hp] at hss
    have hpI : ¬ ((wv % 2 : Nat) : Int) = 1 := by omega
    repeat' (first|((first|(refine zT ?_;intro K' hK')|(refine zG ?_ ?_<;>(try refine zH ?_)<;>intro hguard<;>(try exact zX)<;>try intro K' hK'))<;>((try simp +contextual only [go_sem, hvI, m1, m2, hpI, iRows_len, zI_len, Int.toNat_natCast]);(repeat' first|(with_reducible refine hK' _ _ ?_;clear hK' K')|exact zY|with_reducible refine And.intro ?_ ?_|(with_reducible intro hpath;try exact zP)|(refine hK' _ _ ?_;clear hK' K')|fail);try refine zS ?_))|(refine zE ?_;refine hK _ _ ?_;clear hK K)|(refine zN ?_;try refine zS ?_)|refine zA ?_|(refine zB ?_;intro K hK)|(refine zC ?_ ?_<;>(try refine zH ?_)<;>intro hcond<;>try exact zX)|fail)
    rw [← hss]
    refine ⟨v + 1,Weak.headF 1 22 [0, 1, 5, 6] (zc @hdv trivial) zW,?_,?_⟩
    ·exact hvl
    ·omega
  ·have hnl : ¬ (v : Int) < (n : Int) := by omega
   have ev : v = n := by omega
   subst ev
   refine zR (zc @hnl trivial) trivial trivial ?_
   simp [Rets, aret, Blk.cells, ty, Try.results39, ares, toT1, toT, borrow, borrow0, capCell, toTree0, tints]
theorem setN_mem {n w : Nat} {x : Int} : x ∈ zI (setN n w) ↔ ∃ a : Nat, x = a ∧ a < n ∧ bitN w a = 1 := by
 unfold zI setN
 rw [List.mem_map]
 constructor
 ·rintro ⟨a, ha, rfl⟩
  rw [List.mem_filter, List.mem_range, decide_eq_true_eq] at ha
  exact ⟨a, rfl, ha.1, ha.2⟩
 ·rintro ⟨a, rfl, h1, h2⟩
  exact ⟨a, by rw [List.mem_filter, List.mem_range, decide_eq_true_eq]; exact ⟨h1, h2⟩, rfl⟩
theorem setN_in {n w a : Nat} (ha : a < n) : (a : Int) ∈ zI (setN n w) ↔ bitN w a = 1 := by
 rw [setN_mem]
 constructor
 ·rintro ⟨b, hb, _, h⟩
  have : a = b := by omega
  rw [this]; exact h
 ·intro h; exact ⟨a, rfl, ha, h⟩
theorem zI_range_succ (n : Nat) : zI (List.range n) ++ [(n : Int)] = zI (List.range (n + 1)) := by rw [List.range_succ, zI_snoc]
theorem All_ok (g : G) (hs : (endsL g.es).length < 2 ^ 40) (hl : g.es.length < 2 ^ 40) (hm : ∀ e, e ∈ g.es → e.m < 2 ^ 40) : ACall Try.prog 47 [tG g] (tints (zI (List.range (endsL g.es).length))) := by
 have hS := SizeR_ok g hs hl hm
 generalize (endsL g.es).length = m at *
 obtain ⟨n, es⟩ := g
 refine ACall.of_body Try.func47 rfl (by kernel_rfl) ?_
 simp only [entry, Try.ntmps47, tG]
 refine zU ?_
 refine zR trivial trivial trivial ?_
 refine AWp.weak (Weak.opens ((fun t f => [f, f, f, t, f, f, f, f, f, f, f, f, f, f, f, f]) true false) 1 (by first | omega | simp)) ?_
 simp only [openS, openV, List.length_cons, List.length_nil, List.length_append, Nat.reduceAdd, List.cons_append, List.nil_append]
 refine AWp.loopS (α:=Nat) 16 (fun e=>[(1,.c (.ptr 0 0)),(3,.c (.slice (iRows (zI (List.range e))) (.chain 1))),(4,.c (.int .i64 (e : Int)))]) (fun e=>[.box [.int .i64 n, .slice (eRows es) .none], .chain (zI (List.range e)).length 1]) (fun e=>e ≤ m) (fun e=>m - e) (0) (hk:=Weak.headL 2 16 [1, 3, 4] zW) (h0:=?_) (round:=fun e hI=>?_)
 ·exact Nat.zero_le _
 ·have he : e ≤ m := hI
  clear hI
  by_cases hlt : e < m
  ·have hltI : (e : Int) < (m : Int) := by omega
   have hzs := zI_range_succ e
   have hzl : (zI (List.range e)).length = e := by rw [zI_len, List.length_range]
   have hzl1 : (zI (List.range (e + 1))).length = e + 1 := by rw [zI_len, List.length_range]
   generalize zI (List.range e) = d at *
   generalize hd1 : zI (List.range (e + 1)) = d1 at *
   refine zRc (zc @hltI (zc @iRows_len (zc @iRows_snoc (zc @hzs trivial)))) (zc hS trivial) @iRows_k' ?_
   have hln : d1.length = d.length + 1 := by omega
   refine ⟨e + 1,Weak.headF 2 16 [1, 3, 4] (zc @hd1 (zc @hln trivial)) zW,?_,?_⟩
   ·exact hlt
   ·omega
  ·have hnl : ¬ (e : Int) < (m : Int) := by omega
   have ee : e = m := by omega
   subst ee
   refine zR (zc @hnl trivial) (zc hS trivial) trivial ?_
   simp [Rets, aret, Blk.cells, ty, Try.results47, ares, toT1, toT, borrow, borrow0, capCell, toTree0, tints]
def lessL (l : List Int) (v : Int) : List Int := l.filter fun x => decide (x ≠ v)
theorem lessL_len (l : List Int) (v : Int) : (lessL l v).length ≤ l.length := List.length_filter_le _ _
theorem LessR_ok (l : List Int) (v : Int) (hl : l.length < 2 ^ 40) : ACall Try.prog 49 [tints l, tint v] (tints (lessL l v)) := by
 refine ACall.of_body Try.func49 rfl (by kernel_rfl) ?_
 simp only [entry, Try.ntmps49, tint, tints]
 refine zU ?_
 refine zR trivial trivial trivial ?_
 refine AWp.weak (Weak.opens ((fun t f => [f, f, f, f, f, t, f, f, f, f, f, f, f, f, f, f, f, f, f, f, f, f, f, f, f, f, f]) true false) 1 (by first | omega | simp)) ?_
 simp only [openS, openV, List.length_cons, List.length_nil, List.length_append, Nat.reduceAdd, List.cons_append, List.nil_append]
 refine AWp.loopS (α:=Nat) 27 (fun i=>[(0,.c (.slice (iRows l) .none)),(1,.c (.int .i64 v)),(5,.c (.slice (iRows (lessL (l.take i) v)) (.chain 0))),(6,.c (.int .i64 (i : Int)))]) (fun i=>[.chain (lessL (l.take i) v).length 1]) (fun i=>i ≤ l.length) (fun i=>l.length - i) (0) (hk:=Weak.headL 1 27 [0, 1, 5, 6] zW) (h0:=?_) (round:=fun i hI=>?_)
 ·exact Nat.zero_le _
 ·have hi : i ≤ l.length := hI
  clear hI
  by_cases hlt : i < l.length
  ·have hltI : (i : Int) < (l.length : Int) := by omega
   have e0 := List.getElem?_eq_getElem hlt
   have e1 := iRows_get e0
   have hsn : lessL (l.take (i + 1)) v = if l[i] = v then lessL (l.take i) v else lessL (l.take i) v ++ [l[i]] := by
    unfold lessL; rw [List.take_succ_eq_append_getElem hlt, List.filter_append, List.filter_cons]
    by_cases h : l[i] = v <;> simp [h]
   have hml : (lessL (l.take i) v).length ≤ i := Nat.le_trans (lessL_len _ _) (by rw [List.length_take]; omega)
   generalize l[i] = x at *
   generalize hM2 : lessL (l.take (i + 1)) v = M2 at *
   generalize lessL (l.take i) v = M at *
   by_cases hx : x = v
   ·rw [if_pos hx] at hsn
    subst hx
    repeat' (first|((first|(refine zT ?_;intro K' hK')|(refine zG ?_ ?_<;>(try refine zH ?_)<;>intro hguard<;>(try exact zX)<;>try intro K' hK'))<;>((try simp +contextual only [go_sem, hltI, e1, iRows_len, Int.toNat_natCast]);(repeat' first|(with_reducible refine hK' _ _ ?_;clear hK' K')|exact zY|with_reducible refine And.intro ?_ ?_|(with_reducible intro hpath;try exact zP)|(refine hK' _ _ ?_;clear hK' K')|fail);try refine zS ?_))|(refine zE ?_;refine hK _ _ ?_;clear hK K)|(refine zN ?_;try refine zS ?_)|refine zA ?_|(refine zB ?_;intro K hK)|(refine zC ?_ ?_<;>(try refine zH ?_)<;>intro hcond<;>try exact zX)|fail)
    refine ⟨i + 1,Weak.headF 1 27 [0, 1, 5, 6] (zc @hM2 (zc @hsn trivial)) zW,?_,?_⟩
    ·exact hlt
    ·omega
   ·rw [if_neg hx] at hsn
    have hln : M2.length = M.length + 1 := by rw [hsn]; simp
    repeat' (first|((first|(refine zT ?_;intro K' hK')|(refine zG ?_ ?_<;>(try refine zH ?_)<;>intro hguard<;>(try exact zX)<;>try intro K' hK'))<;>((try simp +contextual only [go_sem, hltI, e1, hx, iRows_len, iRows_snoc, Int.toNat_natCast, chunks, List.range, List.range.loop]);(repeat' first|(with_reducible refine hK' _ _ ?_;clear hK' K')|(with_reducible exact iRows_k' (by assumption))|exact zY|with_reducible refine And.intro ?_ ?_|(with_reducible intro hpath;try exact zP)|(refine hK' _ _ ?_;clear hK' K')|fail);try refine zS ?_))|(refine zE ?_;refine hK _ _ ?_;clear hK K)|(refine zN ?_;try refine zS ?_)|refine zA ?_|(refine zB ?_;intro K hK)|(refine zC ?_ ?_<;>(try refine zH ?_)<;>intro hcond<;>try exact zX)|fail)
    rw [← hsn]
    refine ⟨i + 1,Weak.headF 1 27 [0, 1, 5, 6] (zc @hM2 (zc @hln trivial)) zW,?_,?_⟩
    ·exact hlt
    ·omega
  ·have hnl : ¬ (i : Int) < (l.length : Int) := by omega
   have ei : i = l.length := by omega
   subst ei
   rw [List.take_length]
   refine zR (zc @hnl (zc @iRows_len trivial)) trivial trivial ?_
   simp [Rets, aret, Blk.cells, ty, Try.results49, ares, toT1, toT, borrow, borrow0, capCell, toTree0, tints]
noncomputable def lessG (g : G) (e : Nat) : G := withG g (lessL (zI (List.range (endsL g.es).length)) e)
noncomputable def brF (g : G) (n k : Nat) : List Nat := (List.range k).filter fun e => decide (partsN g.es n n < partsN (lessG g e).es n n)
theorem brF_succ (g : G) (n k : Nat) : brF g n (k + 1) = if partsN g.es n n < partsN (lessG g k).es n n then brF g n k ++ [k] else brF g n k := by
 unfold brF
 rw [List.range_succ, List.filter_append]
 by_cases h : partsN g.es n n < partsN (lessG g k).es n n <;> simp [h]
theorem brF_len (g : G) (n k : Nat) : (brF g n k).length ≤ k := by unfold brF; exact Nat.le_trans (List.length_filter_le _ _) (by simp)
theorem less_in {m : Nat} (e : Int) : ∀ x, x ∈ lessL (zI (List.range m)) e → 0 ≤ x ∧ x < m := fun x hx => by
 have := (List.mem_filter.1 hx).1
 obtain ⟨y, hy, rfl⟩ := List.mem_map.1 this
 have := List.mem_range.1 hy
 omega
theorem refBridges_ok (g : G) (n : Nat) (hc : checkG g = 0) (hn : g.n = n) (hl : g.es.length ≤ 40) (hm : (endsL g.es).length ≤ 40) : ACall Try.prog 16 [tG g] (tints (zI (brF g n (endsL g.es).length))) := by
 have hsm := sm_of (g := g) (by omega) hc
 have hA := All_ok g hsm.s hsm.es hsm.m
 have hAl : (zI (List.range (endsL g.es).length)).length = (endsL g.es).length := by rw [zI_len, List.length_range]
 have hL := fun e : Int => LessR_ok (zI (List.range (endsL g.es).length)) e (by omega)
 have hll := fun e : Int => lessL_len (zI (List.range (endsL g.es).length)) e
 have hW := fun e : Nat => With_ok g (lessL (zI (List.range (endsL g.es).length)) e) hl hc (less_in e) (by have := hll e; omega)
 have hwc := fun e : Nat => with_check hc (less_in (m := (endsL g.es).length) e) (by have := hll e; omega)
 have hP := fun e : Nat => Parts_ok (lessG g e) n (hwc e).1 hn (by have := (hwc e).2; have := hll e; show (withG g _).es.length < _; omega)
 have hPg := Parts_ok g n hc hn (by omega)
 change ∀ e : Nat, ACall _ _ _ (tG (lessG g e)) at hW
 clear hwc
 have hbs := brF_succ g n
 have hbl := brF_len g n
 generalize zI (List.range (endsL g.es).length) = A at *
 generalize (endsL g.es).length = m at *
 have hpb : ∀ es : List E, partsN es n n < 2 ^ 40 := fun es => Nat.lt_of_le_of_lt (partsN_le es n n) (by have := (checkG_zero.1 hc).1; omega)
 have hpg := hpb g.es
 obtain ⟨nI, es⟩ := g
 simp only at hn
 subst hn
 refine ACall.of_body Try.func16 rfl (by kernel_rfl) ?_
 simp only [entry, Try.ntmps16, tG]
 refine zU ?_
 refine zR trivial (zc hA trivial) trivial ?_
 refine AWp.weak (Weak.opens ((fun t f => [f, f, f, t, f, f, f, f, f, f, f, f, f, f, f, f, f, f, f, f, f, f, f, f, f, f, f, f]) true false) 1 (by first | omega | simp)) ?_
 simp only [openS, openV, List.length_cons, List.length_nil, List.length_append, Nat.reduceAdd, List.cons_append, List.nil_append]
 refine AWp.loopS (α:=Nat) 28 (fun e=>[(1,.c (.ptr 0 0)),(3,.c (.slice (iRows (zI (brF ⟨n, es⟩ n e))) (.chain 1))),(4,.c (.slice (iRows A) .none)),(5,.c (.int .i64 (e : Int)))]) (fun e=>[.box [.int .i64 (n : Int), .slice (eRows es) .none], .chain (brF ⟨n, es⟩ n e).length 1]) (fun e=>e ≤ m) (fun e=>m - e) (0) (hk:=Weak.headL 2 28 [1, 3, 4, 5] zW) (h0:=?_) (round:=fun e hI=>?_)
 ·exact Nat.zero_le _
 ·have he : e ≤ m := hI
  clear hI
  by_cases hlt : e < m
  ·have hltI : (e : Int) < (A.length : Int) := by omega
   have h1 := hL e
   have h2 := hW e
   have h3 := hP e
   have h4 := hbs e
   have h5 := hbl e
   have h6 := hpb (lessG ⟨n, es⟩ e).es
   clear hL hW hP hbs hbl hpb
   generalize lessG ⟨n, es⟩ e = W at *
   simp only at h4 hPg hpg
   generalize partsN es n n = pg at *
   generalize partsN W.es n n = pw at *
   generalize lessL A e = t at *
   by_cases hp : pg < pw
   ·rw [if_pos hp] at h4
    have hpI : (pg : Int) < (pw : Int) := by omega
    have hzs := zI_snoc (brF ⟨n, es⟩ n e) e
    rw [← h4] at hzs
    have hln : (brF ⟨n, es⟩ n (e + 1)).length = (brF ⟨n, es⟩ n e).length + 1 := by rw [h4]; simp
    generalize brF ⟨n, es⟩ n e = d at *
    repeat' (first|((first|(refine zT ?_;intro K' hK')|(refine zG ?_ ?_<;>(try refine zH ?_)<;>intro hguard<;>(try exact zX)<;>try intro K' hK'))<;>((try simp +contextual only [go_sem, hltI, hpI, iRows_len, iRows_snoc, zI_len, Int.toNat_natCast, chunks, List.range, List.range.loop]);(repeat' first|(with_reducible refine hK' _ _ ?_;clear hK' K')|((with_reducible first|refine zK h1 ?_|refine zK h2 ?_|refine zK h3 ?_|refine zK hPg ?_);try simp +contextual only [go_sem, hltI, hpI, iRows_len, iRows_snoc, zI_len, Int.toNat_natCast, chunks, List.range, List.range.loop])|(with_reducible exact iRows_k' (by assumption))|exact zY|with_reducible refine And.intro ?_ ?_|(with_reducible intro hpath;try exact zP)|(refine hK' _ _ ?_;clear hK' K')|fail);try refine zS ?_))|(refine zE ?_;refine hK _ _ ?_;clear hK K)|(refine zN ?_;try refine zS ?_)|refine zA ?_|(refine zB ?_;intro K hK)|(refine zC ?_ ?_<;>(try refine zH ?_)<;>intro hcond<;>try exact zX)|fail)
    rw [hzs]
    refine ⟨e + 1,Weak.headF 2 28 [1, 3, 4, 5] (zc @hln trivial) zW,?_,?_⟩
    ·exact hlt
    ·omega
   ·rw [if_neg hp] at h4
    have hpI : ¬ (pg : Int) < (pw : Int) := by omega
    repeat' (first|((first|(refine zT ?_;intro K' hK')|(refine zG ?_ ?_<;>(try refine zH ?_)<;>intro hguard<;>(try exact zX)<;>try intro K' hK'))<;>((try simp +contextual only [go_sem, hltI, hpI, iRows_len, zI_len, Int.toNat_natCast]);(repeat' first|(with_reducible refine hK' _ _ ?_;clear hK' K')|((with_reducible first|refine zK h1 ?_|refine zK h2 ?_|refine zK h3 ?_|refine zK hPg ?_);try simp +contextual only [go_sem, hltI, hpI, iRows_len, zI_len, Int.toNat_natCast])|exact zY|with_reducible refine And.intro ?_ ?_|(with_reducible intro hpath;try exact zP)|(refine hK' _ _ ?_;clear hK' K')|fail);try refine zS ?_))|(refine zE ?_;refine hK _ _ ?_;clear hK K)|(refine zN ?_;try refine zS ?_)|refine zA ?_|(refine zB ?_;intro K hK)|(refine zC ?_ ?_<;>(try refine zH ?_)<;>intro hcond<;>try exact zX)|fail)
    rw [← h4]
    refine ⟨e + 1,Weak.headN 2 28 [1, 3, 4, 5] zW,?_,?_⟩
    ·exact hlt
    ·omega
  ·have hnl : ¬ (e : Int) < (A.length : Int) := by omega
   have ee : e = m := by omega
   subst ee
   refine zR (zc @hnl (zc @iRows_len trivial)) trivial trivial ?_
   simp [Rets, aret, Blk.cells, ty, Try.results16, ares, toT1, toT, borrow, borrow0, capCell, toTree0, tints]
end Go.Proofs.Ytgklecfiflhjmaa
