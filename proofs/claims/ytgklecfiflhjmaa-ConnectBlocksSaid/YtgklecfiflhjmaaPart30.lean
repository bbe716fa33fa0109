/- A part of the proof. -/
import Derived.Test.YtgklecfiflhjmaaPart27
import Derived.Test.YtgklecfiflhjmaaPart29
import Derived.Test.YtgklecfiflhjmaaLayerC
import Derived.Test.YtgklecfiflhjmaaPart26
import Derived.Test.YtgklecfiflhjmaaLayerD
set_option linter.all false
set_option maxHeartbeats 4000000
set_option maxRecDepth 100000
namespace Go.Proofs.Ytgklecfiflhjmaa
open Go.Sp
theorem Bridges_law (g : G) : ACall Try.prog 3 [tG g] (tbool true) := by
 have hF := FewG_ok g
 have hA := cawake_ok
 by_cases hf : smallB g 6 9 = true
 case neg =>
  rw [Bool.not_eq_true] at hf
  rw [hf] at hF
  obtain ⟨n, es⟩ := g
  refine ACall.of_body Try.func3 rfl (by kernel_rfl) ?_
  simp only [entry, Try.ntmps3, tG]
  refine zU ?_
  refine zR trivial (zc hF (zc hA trivial)) trivial ?_
  simp [Rets, aret, Blk.cells, ty, Try.results3, ares, toT1, toT, borrow, borrow0, capCell, toTree0, tbool]
 rw [hf] at hF
 have hfw := few_of hf
 have hes := hfw.es
 have hCk := CheckR_ok g (by omega)
 have hB := Bridges_ok g hes
 have hAr := Articulations_ok g hes
 by_cases hc : checkG g = 0
 case neg =>
  rw [if_pos hc] at hB hAr
  generalize checkG g = E at *
  obtain ⟨n, es⟩ := g
  have e0 : ([] : List Int).length = 0 := rfl
  refine ACall.of_body Try.func3 rfl (by kernel_rfl) ?_
  simp only [entry, Try.ntmps3, tG]
  refine zU ?_
  refine zR (zc @iRows_len (zc @hc (zc @e0 trivial))) (zc hF (zc hA (zc hCk (zc hB (zc hAr trivial))))) trivial ?_
  simp [Rets, aret, Blk.cells, ty, Try.results3, ares, toT1, toT, borrow, borrow0, capCell, toTree0, tbool]
 have h12 := (checkG_zero.1 hc).1
 have hsz := hfw.sz hc
 have hng := ng_of hc hes
 have hLl : (nL (endsL g.es)).length = (endsL g.es).length := nL_len _
 have hrb := refBridges_ok g g.n.toNat hc (by omega) hes (by omega)
 have hra := refArticulations_ok g g.n.toNat hc (by omega) hes
 rw [if_neg (by omega), bridges_eq hc hng (by omega), hLl, hc] at hB
 rw [if_neg (by omega), arts_eq hc hng, hc] at hAr
 rw [hc] at hCk
 have hbl := brF_len g g.n.toNat (endsL g.es).length
 have hal := arF_len g.es g.n.toNat g.n.toNat
 have q1 := Equal_ok (zI (brF g g.n.toNat (endsL g.es).length)) (zI (brF g g.n.toNat (endsL g.es).length)) (by rw [zI_len]; omega) (by rw [zI_len]; omega)
 have q2 := Equal_ok (zI (arF g.es g.n.toNat g.n.toNat)) (zI (arF g.es g.n.toNat g.n.toNat)) (by rw [zI_len]; omega) (by rw [zI_len]; omega)
 rw [decide_eq_true rfl] at q1 q2
 generalize zI (brF g g.n.toNat (endsL g.es).length) = b1 at *
 generalize zI (arF g.es g.n.toNat g.n.toNat) = b2 at *
 obtain ⟨n, es⟩ := g
 refine ACall.of_body Try.func3 rfl (by kernel_rfl) ?_
 simp only [entry, Try.ntmps3, tG]
 refine zU ?_
 repeat' (first|((first|(refine zT ?_;intro K' hK')|(refine zG ?_ ?_<;>(try refine zH ?_)<;>intro hguard<;>(try exact zX)<;>try intro K' hK'))<;>((try simp +contextual only [go_sem, iRows_len]);(repeat' first|(with_reducible refine hK' _ _ ?_;clear hK' K')|((with_reducible first|refine zK hF ?_|refine zK hA ?_|refine zK hCk ?_|refine zK hB ?_|refine zK hAr ?_|refine zK hrb ?_|refine zK hra ?_|refine zK q1 ?_|refine zK q2 ?_);try simp +contextual only [go_sem, iRows_len])|exact zY|with_reducible refine And.intro ?_ ?_|(with_reducible intro hpath;try exact zP)|(refine hK' _ _ ?_;clear hK' K')|fail);try refine zS ?_))|(refine zE ?_;refine hK _ _ ?_;clear hK K)|(refine zN ?_;try refine zS ?_)|refine zA ?_|(refine zB ?_;intro K hK)|(refine zC ?_ ?_<;>(try refine zH ?_)<;>intro hcond<;>try exact zX)|fail)
 repeat
  simp [Rets, aret, Blk.cells, ty, Try.results3, ares, toT1, toT, borrow, borrow0, capCell, toTree0, tbool]
theorem Cycles_ok (g : G) (n : Nat) (L : List (Nat × Nat)) (hc : checkG g = 0) (h : NG g n L) (hl : g.es.length ≤ 40) (hm : L.length ≤ 20) : ACall Try.prog 54 [tG g] (tlists (oI (cycW L g n (2 ^ L.length - 1)))) := by
 have hEl : (endsL g.es).length = L.length := by rw [h.ends]; simp [LI]
 have hS := SizeR_ok g (by have := ends_len hl hc; omega) (by omega) (fun e he => by have := (checkG_zero.1 hc).2.1 e he; unfold okE at this; omega)
 have hP := power_ok L.length (by omega)
 have hSub := fun w (hw : w < 2 ^ 40) => subN_ok L.length w (by omega) hw
 have hmem : ∀ w f, f ∈ setN L.length w → f < L.length := fun w f hf => by
  unfold setN at hf; exact List.mem_range.1 (List.mem_filter.1 hf).1
 have hIs : ∀ w, ACall Try.prog 80 [tG g, tints (zI (setN L.length w))] (tbool (cycP L g n w)) := fun w => by
  have hlen := setN_len L.length w
  have := IsCycle_ok g n (zI (setN L.length w)) hc h.hn hl (fun x hx => by
   obtain ⟨f, hf, rfl⟩ := List.mem_map.1 hx
   have := hmem w f hf
   omega) (by rw [zI_len]; omega)
  rw [zI_len] at this
  exact this
 rw [hEl] at hS
 have hpw : 2 ^ L.length ≤ 2 ^ 20 := Nat.pow_le_pow_right (by omega) hm
 have hp1 : 1 ≤ 2 ^ L.length := Nat.one_le_two_pow
 have hPw : powN L.length = 2 ^ L.length := rfl
 rw [hPw] at hP
 have hcs := fun k => cycW_succ L g n k
 have hcl := fun k => cycW_len L g n k
 have hsl := fun w => setN_len L.length w
 generalize 2 ^ L.length = P at *
 generalize hm2 : L.length = m at *
 have hsp : P - 1 + 1 = P := by omega
 generalize cycP L g n = Q at *
 clear hc h hmem hl
 obtain ⟨nI, es⟩ := g
 refine ACall.of_body Try.func54 rfl (by kernel_rfl) ?_
 simp only [entry, Try.ntmps54, tG]
 refine zU ?_
 refine zR trivial (zc hS trivial) trivial ?_
 refine AWp.weak (Weak.opens ((fun t f => [f, f, f, f, t, f, f, f, f, f, f, f, f, f, f, f, f, f, f, f, f, f, f, f, f, f]) true false) 1 (by first | omega | simp)) ?_
 simp only [openS, openV, List.length_cons, List.length_nil, List.length_append, Nat.reduceAdd, List.cons_append, List.nil_append]
 refine AWp.loopS (α:=Nat) 26 (fun k=>[(1,.c (.ptr 0 0)),(3,.c (.int .i64 (m : Int))),(4,.c (.slice (llRows (oI (cycW L ⟨nI, es⟩ n k))) (.chain 1))),(5,.c (.int .i64 ((k + 1 : Nat) : Int)))]) (fun k=>[.box [.int .i64 nI, .slice (eRows es) .none], .chain (cycW L ⟨nI, es⟩ n k).length 1]) (fun k=>k + 1 ≤ P) (fun k=>P - k) (0) (hk:=Weak.headL 2 26 [1, 3, 4, 5] zW) (h0:=?_) (round:=fun k hI=>?_)
 ·show 0 + 1 ≤ P
  omega
 ·have hk : k + 1 ≤ P := hI
  clear hI
  by_cases hlt : k + 1 < P
  ·have hltI : ((k + 1 : Nat) : Int) < (P : Int) := by omega
   have h1 := hSub (k + 1) (by omega)
   have h2 := hIs (k + 1)
   have h3 := hcs k
   have h4 := hcl k
   have h5 := hsl (k + 1)
   have hk2 : ((k + 1 : Nat) : Int) + 1 = ((k + 1 + 1 : Nat) : Int) := by omega
   generalize hWk : cycW L ⟨nI, es⟩ n k = Wk at *
   generalize hWk1 : cycW L ⟨nI, es⟩ n (k + 1) = Wk1 at *
   cases hq : Q (k + 1) with
   | true =>
    rw [hq] at h2
    rw [hq, if_pos rfl] at h3
    have hrs := llRows_snoc (oI Wk) (zI (setN m (k + 1)))
    have hos : oI Wk ++ [zI (setN m (k + 1))] = oI Wk1 := by rw [h3]; simp [oI]
    rw [hos] at hrs
    have hln : Wk1.length = Wk.length + 1 := by rw [h3]; simp
    generalize setN m (k + 1) = st at *
    generalize hkk : k + 1 = k1 at *
    repeat' (first|((first|(refine zT ?_;intro K' hK')|(refine zG ?_ ?_<;>(try refine zH ?_)<;>intro hguard<;>(try exact zX)<;>try intro K' hK'))<;>((try simp +contextual only [go_sem, hltI, hk2, iRows_len, zI_len, llRows_len, oI_len, hrs, Int.toNat_natCast, chunks, List.range, List.range.loop]);(repeat' first|(with_reducible refine hK' _ _ ?_;clear hK' K')|((with_reducible first|refine zK hP ?_|refine zK h1 ?_|refine zK h2 ?_);try simp +contextual only [go_sem, hltI, hk2, iRows_len, zI_len, llRows_len, oI_len, hrs, Int.toNat_natCast, chunks, List.range, List.range.loop])|(with_reducible exact llRows_k' (by assumption))|exact zY|with_reducible refine And.intro ?_ ?_|(with_reducible intro hpath;try exact zP)|(refine hK' _ _ ?_;clear hK' K')|fail);try refine zS ?_))|(refine zE ?_;refine hK _ _ ?_;clear hK K)|(refine zN ?_;try refine zS ?_)|refine zA ?_|(refine zB ?_;intro K hK)|(refine zC ?_ ?_<;>(try refine zH ?_)<;>intro hcond<;>try exact zX)|fail)
    rw [← hkk] at *
    refine ⟨k + 1,Weak.headF 2 26 [1, 3, 4, 5] (zc @hWk1 (zc @hln trivial)) zW,?_,?_⟩
    ·exact hlt
    ·omega
   | false =>
    rw [hq] at h2
    rw [hq, if_neg (by simp)] at h3
    generalize setN m (k + 1) = st at *
    generalize hkk : k + 1 = k1 at *
    repeat' (first|((first|(refine zT ?_;intro K' hK')|(refine zG ?_ ?_<;>(try refine zH ?_)<;>intro hguard<;>(try exact zX)<;>try intro K' hK'))<;>((try simp +contextual only [go_sem, hltI, hk2, iRows_len, zI_len, Int.toNat_natCast]);(repeat' first|(with_reducible refine hK' _ _ ?_;clear hK' K')|((with_reducible first|refine zK hP ?_|refine zK h1 ?_|refine zK h2 ?_);try simp +contextual only [go_sem, hltI, hk2, iRows_len, zI_len, Int.toNat_natCast])|exact zY|with_reducible refine And.intro ?_ ?_|(with_reducible intro hpath;try exact zP)|(refine hK' _ _ ?_;clear hK' K')|fail);try refine zS ?_))|(refine zE ?_;refine hK _ _ ?_;clear hK K)|(refine zN ?_;try refine zS ?_)|refine zA ?_|(refine zB ?_;intro K hK)|(refine zC ?_ ?_<;>(try refine zH ?_)<;>intro hcond<;>try exact zX)|fail)
    rw [← hkk] at *
    refine ⟨k + 1,Weak.headF 2 26 [1, 3, 4, 5] (zc @hWk1 (zc @h3 trivial)) zW,?_,?_⟩
    ·exact hlt
    ·omega
  ·have hnl : ¬ ((k + 1 : Nat) : Int) < (P : Int) := by omega
   have ek : k = P - 1 := by omega
   rw [← ek]
   generalize hkk : k + 1 = k1 at *
   refine zR (zc @hnl trivial) (zc hP trivial) trivial ?_
   simp [Rets, aret, Blk.cells, ty, Try.results54, ares, toT1, toT, borrow, borrow0, capCell, toTree0, tlists]
theorem refBlocks_ok (g : G) (n : Nat) (L : List (Nat × Nat)) (hc : checkG g = 0) (h : NG g n L) (hl : g.es.length ≤ 40) (hm : L.length ≤ 20) : ACall Try.prog 20 [tG g] (tlists (oI (blkR (oI (cycW L g n (2 ^ L.length - 1))) L.length L.length))) := by
 have hEl : (endsL g.es).length = L.length := by rw [h.ends]; simp [LI]
 have hS := SizeR_ok g (by have := ends_len hl hc; omega) (by omega) (fun e he => by have := (checkG_zero.1 hc).2.1 e he; unfold okE at this; omega)
 have hC := Cycles_ok g n L hc h hl hm
 rw [hEl] at hS
 have hpw : 2 ^ L.length ≤ 2 ^ 20 := Nat.pow_le_pow_right (by omega) hm
 have hcl := cycW_len L g n (2 ^ L.length - 1)
 have hcm : ∀ c, c ∈ oI (cycW L g n (2 ^ L.length - 1)) → c.length < 2 ^ 40 := fun c hc => by
  unfold oI cycW at hc
  rw [List.map_map] at hc
  obtain ⟨j, _, rfl⟩ := List.mem_map.1 hc
  have := setN_len L.length (j + 1)
  simp only [Function.comp_apply]
  rw [zI_len]; omega
 have hcl2 : (oI (cycW L g n (2 ^ L.length - 1))).length < 2 ^ 40 := by rw [oI_len]; omega
 generalize oI (cycW L g n (2 ^ L.length - 1)) = cs at *
 have hCm := fun e f => common_ok cs e f hcl2 hcm
 generalize L.length = m at *
 clear hc h hEl hcl hpw
 obtain ⟨nI, es⟩ := g
 have hR0 : blkR cs m 0 = [] := rfl
 refine ACall.of_body Try.func20 rfl (by kernel_rfl) ?_
 simp only [entry, Try.ntmps20, tG]
 refine zU ?_
 refine zR trivial (zc hC (zc hS trivial)) trivial ?_
 refine AWp.weak (Weak.opens ((fun t f => [f, f, f, f, t, f, f, f, f, f, f, f, f, f, f, f, f, f, f, f, f, f, f, f, f, f, f, f, f, f, f, f, f, f, f, f, f, f, f, f, f, f, f, f, f, f, f]) true false) 1 (by first | omega | simp)) ?_
 simp only [openS, openV, List.length_cons, List.length_nil, List.length_append, Nat.reduceAdd, List.cons_append, List.nil_append]
 rw [show ([] : List (List Tree)) = llRows (oI (blkR cs m 0)) by rw [hR0]; rfl]
 refine AWp.loopS (α:=Nat) 47 (fun e=>[(1,.c (.ptr 0 0)),(3,.c (.slice (llRows cs) .none)),(4,.c (.slice (llRows (oI (blkR cs m e))) (.chain 1))),(5,.c (.int .i64 (m : Int))),(6,.c (.int .i64 (e : Int)))]) (fun e=>[.box [.int .i64 nI, .slice (eRows es) .none], .chain (blkR cs m e).length 1]) (fun e=>e ≤ m) (fun e=>m - e) (0) (hk:=Weak.headL 2 47 [1, 3, 4, 5, 6] zW) (h0:=?_) (round:=fun e hI=>?_)
 ·exact Nat.zero_le _
 ·have he : e ≤ m := hI
  clear hI
  by_cases hel : e < m
  ·have heI : (e : Int) < (m : Int) := by omega
   have hsu := blkR_succ cs m e
   have hbl := blkR_len cs m e
   generalize blkR cs m e = bs at *
   refine zR (zc @heI trivial) trivial trivial ?_
   refine AWp.weak (Weak.openE 7 1 rfl (by simp)) ?_
   simp only [List.set_cons_succ, List.set_cons_zero, List.length_cons, List.length_nil, List.length_append, Nat.reduceAdd, List.cons_append, List.nil_append]
   have hB0 : blkW cs e 0 = [] := rfl
   rw [show ([] : List (List Tree)) = iRows (zI (blkW cs e 0)) by rw [hB0]; rfl]
   refine AWp.loopS (α:=Nat) 47 (fun f=>[(1,.c (.ptr 0 0)),(3,.c (.slice (llRows cs) .none)),(4,.c (.slice (llRows (oI bs)) (.chain 1))),(5,.c (.int .i64 (m : Int))),(6,.c (.int .i64 (e : Int))),(7,.c (.slice (iRows (zI (blkW cs e f))) (.chain 2))),(8,.c (.int .i64 (f : Int)))]) (fun f=>[.box [.int .i64 nI, .slice (eRows es) .none], .chain bs.length 1, .chain (blkW cs e f).length 1]) (fun f=>f ≤ m) (fun f=>m - f) (0) (hk:=Weak.headL 3 47 [1, 3, 4, 5, 6, 7, 8] zW) (h0:=?_) (round:=fun f hI=>?_)
   ·exact Nat.zero_le _
   ·have hf : f ≤ m := hI
    clear hI
    by_cases hfl : f < m
    ·have hfI : (f : Int) < (m : Int) := by omega
     have hps := blkW_succ cs e f
     have hpl := blkW_len cs e f
     have hCf := hCm e f
     by_cases hfe : f = e
     ·rw [decide_eq_true hfe, Bool.true_or, if_pos rfl] at hps
      have hfeI : (f : Int) = (e : Int) := by omega
      have hzs := zI_snoc (blkW cs e f) f
      rw [← hps] at hzs
      have hln : (blkW cs e (f + 1)).length = (blkW cs e f).length + 1 := by rw [hps]; simp
      generalize blkW cs e f = d at *
      rw [hfeI] at hzs
      repeat' (first|((first|(refine zT ?_;intro K' hK')|(refine zG ?_ ?_<;>(try refine zH ?_)<;>intro hguard<;>(try exact zX)<;>try intro K' hK'))<;>((try simp +contextual only [go_sem, hfI, heI, hfeI, iRows_len, iRows_snoc, zI_len, Int.toNat_natCast, chunks, List.range, List.range.loop]);(repeat' first|(with_reducible refine hK' _ _ ?_;clear hK' K')|(with_reducible exact iRows_k' (by assumption))|exact zY|with_reducible refine And.intro ?_ ?_|(with_reducible intro hpath;try exact zP)|(refine hK' _ _ ?_;clear hK' K')|fail);try refine zS ?_))|(refine zE ?_;refine hK _ _ ?_;clear hK K)|(refine zN ?_;try refine zS ?_)|refine zA ?_|(refine zB ?_;intro K hK)|(refine zC ?_ ?_<;>(try refine zH ?_)<;>intro hcond<;>try exact zX)|fail)
      rw [hzs, ← hfeI]
      refine ⟨f + 1,Weak.headF 3 47 [1, 3, 4, 5, 6, 7, 8] (zc @hln trivial) zW,?_,?_⟩
      ·exact hfl
      ·omega
     ·rw [decide_eq_false hfe, Bool.false_or] at hps
      have hfeI : ¬ (f : Int) = (e : Int) := by omega
      cases hb : cs.any (comB (e : Int) (f : Int)) with
      | true =>
       rw [hb, if_pos rfl] at hps
       rw [hb] at hCf
       have hzs := zI_snoc (blkW cs e f) f
       rw [← hps] at hzs
       have hln : (blkW cs e (f + 1)).length = (blkW cs e f).length + 1 := by rw [hps]; simp
       generalize blkW cs e f = d at *
       repeat' (first|((first|(refine zT ?_;intro K' hK')|(refine zG ?_ ?_<;>(try refine zH ?_)<;>intro hguard<;>(try exact zX)<;>try intro K' hK'))<;>((try simp +contextual only [go_sem, hfI, hfeI, iRows_len, iRows_snoc, zI_len, Int.toNat_natCast, chunks, List.range, List.range.loop]);(repeat' first|(with_reducible refine hK' _ _ ?_;clear hK' K')|(with_reducible refine zK hCf ?_;try simp +contextual only [go_sem, hfI, hfeI, iRows_len, iRows_snoc, zI_len, Int.toNat_natCast, chunks, List.range, List.range.loop])|(with_reducible exact iRows_k' (by assumption))|exact zY|with_reducible refine And.intro ?_ ?_|(with_reducible intro hpath;try exact zP)|(refine hK' _ _ ?_;clear hK' K')|fail);try refine zS ?_))|(refine zE ?_;refine hK _ _ ?_;clear hK K)|(refine zN ?_;try refine zS ?_)|refine zA ?_|(refine zB ?_;intro K hK)|(refine zC ?_ ?_<;>(try refine zH ?_)<;>intro hcond<;>try exact zX)|fail)
       rw [hzs]
       refine ⟨f + 1,Weak.headF 3 47 [1, 3, 4, 5, 6, 7, 8] (zc @hln trivial) zW,?_,?_⟩
       ·exact hfl
       ·omega
      | false =>
       rw [hb, if_neg (by simp)] at hps
       rw [hb] at hCf
       repeat' (first|((first|(refine zT ?_;intro K' hK')|(refine zG ?_ ?_<;>(try refine zH ?_)<;>intro hguard<;>(try exact zX)<;>try intro K' hK'))<;>((try simp +contextual only [go_sem, hfI, hfeI, Int.toNat_natCast]);(repeat' first|(with_reducible refine hK' _ _ ?_;clear hK' K')|(with_reducible refine zK hCf ?_;try simp +contextual only [go_sem, hfI, hfeI, Int.toNat_natCast])|exact zY|with_reducible refine And.intro ?_ ?_|(with_reducible intro hpath;try exact zP)|(refine hK' _ _ ?_;clear hK' K')|fail);try refine zS ?_))|(refine zE ?_;refine hK _ _ ?_;clear hK K)|(refine zN ?_;try refine zS ?_)|refine zA ?_|(refine zB ?_;intro K hK)|(refine zC ?_ ?_<;>(try refine zH ?_)<;>intro hcond<;>try exact zX)|fail)
       rw [← hps]
       refine ⟨f + 1,Weak.headN 3 47 [1, 3, 4, 5, 6, 7, 8] zW,?_,?_⟩
       ·exact hfl
       ·omega
    ·have hnl : ¬ (f : Int) < (m : Int) := by omega
     have eu : f = m := by omega
     subst eu
     have hvm : e ∈ blkW cs e f := by
      unfold blkW
      exact List.mem_filter.2 ⟨List.mem_range.2 hel, by simp⟩
     have hpl := blkW_len cs e f
     obtain ⟨x, hx0⟩ : ∃ x, (blkW cs e f)[0]? = some x := ⟨_, List.getElem?_eq_getElem (List.length_pos_iff.2 (fun h => by rw [h] at hvm; cases hvm))⟩
     have hgd : (blkW cs e f).getD 0 0 = x := by rw [List.getD_eq_getElem?_getD, hx0]; rfl
     have hpos : (0 : Int) < ((blkW cs e f).length : Int) := by have := (List.getElem?_eq_some_iff.1 hx0).1; omega
     have e0 := zI_get hx0
     rw [hgd] at hsu
     generalize blkW cs e f = d at *
     by_cases hxv : x = e
     ·rw [if_pos hxv] at hsu
      have hxI : (x : Int) = (e : Int) := by omega
      have hrs := llRows_snoc (oI bs) (zI d)
      have hos : oI bs ++ [zI d] = oI (blkR cs f (e + 1)) := by rw [hsu]; simp [oI]
      rw [hos] at hrs
      have hln : (blkR cs f (e + 1)).length = bs.length + 1 := by rw [hsu]; simp
      repeat' (first|((first|(refine zT ?_;intro K' hK')|(refine zG ?_ ?_<;>(try refine zH ?_)<;>intro hguard<;>(try exact zX)<;>try intro K' hK'))<;>((try simp +contextual only [go_sem, hnl, e0, hpos, hxI, iRows_len, zI_len, llRows_len, oI_len, hrs, Int.toNat_natCast, chunks, List.range, List.range.loop]);(repeat' first|(with_reducible refine hK' _ _ ?_;clear hK' K')|(with_reducible exact llRows_k' (by assumption))|exact zY|with_reducible refine And.intro ?_ ?_|(with_reducible intro hpath;try exact zP)|(refine hK' _ _ ?_;clear hK' K')|fail);try refine zS ?_))|(refine zE ?_;refine hK _ _ ?_;clear hK K)|(refine zN ?_;try refine zS ?_)|refine zA ?_|(refine zB ?_;intro K hK)|(refine zC ?_ ?_<;>(try refine zH ?_)<;>intro hcond<;>try exact zX)|fail)
      refine ⟨e + 1,Weak.headF 2 47 [1, 3, 4, 5, 6] (zc @hln trivial) zW,?_,?_⟩
      ·exact hel
      ·omega
     ·rw [if_neg hxv] at hsu
      have hxI : ¬ (x : Int) = (e : Int) := by omega
      repeat' (first|((first|(refine zT ?_;intro K' hK')|(refine zG ?_ ?_<;>(try refine zH ?_)<;>intro hguard<;>(try exact zX)<;>try intro K' hK'))<;>((try simp +contextual only [go_sem, hnl, e0, hpos, hxI, iRows_len, zI_len, Int.toNat_natCast]);(repeat' first|(with_reducible refine hK' _ _ ?_;clear hK' K')|exact zY|with_reducible refine And.intro ?_ ?_|(with_reducible intro hpath;try exact zP)|(refine hK' _ _ ?_;clear hK' K')|fail);try refine zS ?_))|(refine zE ?_;refine hK _ _ ?_;clear hK K)|(refine zN ?_;try refine zS ?_)|refine zA ?_|(refine zB ?_;intro K hK)|(refine zC ?_ ?_<;>(try refine zH ?_)<;>intro hcond<;>try exact zX)|fail)
      rw [← hsu]
      refine ⟨e + 1,Weak.headN 2 47 [1, 3, 4, 5, 6] zW,?_,?_⟩
      ·exact hel
      ·omega
  ·have hnl : ¬ (e : Int) < (m : Int) := by omega
   have ev : e = m := by omega
   subst ev
   refine zR (zc @hnl trivial) trivial trivial ?_
   simp [Rets, aret, Blk.cells, ty, Try.results20, ares, toT1, toT, borrow, borrow0, capCell, toTree0, tlists]
end Go.Proofs.Ytgklecfiflhjmaa
