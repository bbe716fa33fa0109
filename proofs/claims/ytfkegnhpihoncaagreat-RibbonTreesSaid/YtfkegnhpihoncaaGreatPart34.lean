/- A part of the proof. -/
import Derived.Test.YtfkegnhpihoncaaGreatPart33
import Derived.Test.YtfkegnhpihoncaaGreatPart27
import Derived.Test.YtfkegnhpihoncaaGreatPart14
import Derived.Test.YtfkegnhpihoncaaGreatLayerC
import Derived.Test.YtfkegnhpihoncaaGreatPart31
import Derived.Test.YtfkegnhpihoncaaGreatPart11
set_option linter.all false
set_option maxHeartbeats 4000000
set_option maxRecDepth 100000
namespace Go.Proofs.YtfkegnhpihoncaaGreat
open Go.Sp
theorem tloose_ok : ACall Tryz.prog 153 [] (tF (List.range 12)) := by
 refine ACall.of_body Tryz.func153 rfl (by kernel_rfl) ?_
 simp only [entry, Tryz.ntmps153]
 refine zU ?_
 refine zR trivial trivial trivial ?_
 refine AWp.loopS (α:=Nat) 11 (fun i=>[(0,.c (.ptr 0 0)),(1,.c (.ptr 1 0)),(3,.c (.int .i64 (i : Int)))]) (fun i=>[.box (fC (List.replicate 12 0)), .box (fC (initF i))]) (fun i=>i ≤ 12) (fun i=>12 - i) (0) (hk:=Weak.headL 2 11 [0, 1, 3] (zV @fC_in)) (h0:=?_) (round:=fun i hI=>?_)
 ·exact Nat.zero_le _
 ·by_cases hlt : i < 12
  ·have hset := initF_set hlt
   have hlen := initF_len hI
   generalize initF i = F at *
   refine zR (zc @fC_len (zc @hlen (zc @fC_set (zc @fC_set2 (zc @hset trivial))))) trivial trivial ?_
   refine ⟨i + 1,Weak.headN 2 11 [0, 1, 3] (zV @fC_in),?_,?_⟩
   ·exact hlt
   ·omega
  ·have ei : i = 12 := by omega
   subst ei
   rw [initF_12]
   have hl : (List.range 12).length = 12 := List.length_range
   generalize List.range 12 = F at *
   have ht : (fC F).take 12 = fC F := List.take_of_length_le (by rw [fC_len, hl]; exact Nat.le_refl _)
   have hs := fC_store (List.replicate 12 0) F (by simp [hl])
   have hlr : (List.replicate 12 0 : List Nat).length = 12 := by simp
   generalize List.replicate 12 0 = Z at *
   refine zR (zc @fC_len (zc @hl (zc @hlr (zc @ht (zc @hs (zc @fC_free trivial)))))) trivial trivial ?_
   have hm := fC_borrow [Blk.box (fC F), Blk.box (fC F)] F
   simp [Rets, aret, Blk.cells, ty, Tryz.results153, ares, toT1, toT, borrow, borrow0, capCell, toTree0, hm, hl, ht, fC_len, tF]
theorem troot_ok {F : List Nat} {rt dp : Nat → Nat} (h : TF F rt dp) (v : Nat) (hv : v < 12) : ACall Tryz.prog 176 [.t (.rptr (fT F)), tint v] (tint (rt v)) := by
 have hF := h.len
 refine ACall.of_body Tryz.func176 rfl (by kernel_rfl) ?_
 simp only [entry, Tryz.ntmps176, tint]
 refine zU ?_
 refine zR trivial trivial trivial ?_
 refine AWp.loopS (α:=Nat) 18 (fun u=>[(0,.c (.rptr (fT F))),(1,.c (.int .i64 (u : Int)))]) (fun u=>[]) (fun u=>u < 12 ∧ rt v = rt u) (fun u=>dp u) (v) (hk:=Weak.headL 0 18 [0, 1] (zV @fC_in)) (h0:=?_) (round:=fun u hI=>?_)
 ·exact ⟨hv, rfl⟩
 ·obtain ⟨hu, hx⟩ := hI
  have hul : u < F.length := by omega
  have e1 := fT_drop hul
  have e2 := h.same u hul
  have e3 := h.lt u hul
  have e4 := h.self u hul
  have e5 := h.down u hul
  repeat' (first|((first|(refine zT ?_;intro K' hK')|(refine zG ?_ ?_<;>(try refine zH ?_)<;>intro hguard<;>(try exact zX)<;>try intro K' hK'))<;>((try simp +contextual only [go_sem, e1, Int.toNat_natCast, Nat.mul_one]);(repeat' first|(with_reducible refine hK' _ _ ?_;clear hK' K')|exact zY|with_reducible refine And.intro ?_ ?_|(with_reducible intro hpath;try exact zP)|(refine hK' _ _ ?_;clear hK' K')|fail);try refine zS ?_))|(refine zE ?_;refine hK _ _ ?_;clear hK K)|(refine zN ?_;try refine zS ?_)|refine zA ?_|(refine zB ?_;intro K hK)|(refine zC ?_ ?_<;>(try refine zH ?_)<;>intro hcond<;>try exact zX)|fail)
  ·have hne : F[u] ≠ u := by omega
   refine ⟨F[u],Weak.headN 0 18 [0, 1] (zV @fC_in),?_,?_⟩
   ·exact ⟨e3, by rw [hx, e2]⟩
   ·exact e5 hne
  ·have e : rt v = u := by rw [hx]; exact e4 (by omega)
   simp [Rets, aret, Blk.cells, ty, Tryz.results176, ares, toT1, toT, borrow, borrow0, capCell, toTree0, tint, e]
theorem troot_call {F : List Nat} {rt dp : Nat → Nat} (h : TF F rt dp) (v : Nat) (hv : v < 12) {H : List Blk} {id : Nat} (hb : H[id]? = some (.box (fC F))) :
  ACallH Tryz.prog 176 H [.c (.ptr id 0), .c (.int .i64 (v : Int))] H (.c (.int .i64 (rt v : Nat))) :=
 ACall.hb (troot_ok h v hv) (by simp [toT, borrow, borrow0, hb, Blk.cells, mapM_fT, toTree0, tint]) rfl
theorem tjoin_ok {F : List Nat} {rt dp : Nat → Nat} (h : TF F rt dp) (a b : Nat) (ha : a < 12) (hb : b < 12) {H : List Blk} {id : Nat} (hid : H[id]? = some (.box (fC F))) :
  ACallH Tryz.prog 154 H [.c (.ptr id 0), .agg [.int .i64 (a : Int), .int .i64 (b : Int)]] (H.set id (.box (fC (F.set (rt a) (rt b)))) ++ [.box [.int .i64 (a : Int), .int .i64 (b : Int)]]) (.c (.bool (!decide (rt a = rt b)))) := by
 have hil : id < H.length := (List.getElem?_eq_some_iff.1 hid).1
 have hid2 : ∀ B : Blk, (H ++ [B])[id]? = some (.box (fC F)) := fun B => by rw [List.getElem?_append_left hil]; exact hid
 have hst : ∀ B X : Blk, (H ++ [B]).set id X = H.set id X ++ [B] := fun B X => List.set_append_left _ _ hil
 have hnew : ∀ B : Blk, (H ++ [B])[H.length]? = some B := fun B => by simp
 have rx := troot_call h a ha (hid2 (.box [.int .i64 (a : Int), .int .i64 (b : Int)]))
 have ry := troot_call h b hb (hid2 (.box [.int .i64 (a : Int), .int .i64 (b : Int)]))
 have la := h.rlt a ha
 have lb := h.rlt b hb
 have hlen := h.len
 generalize rt a = x at *
 generalize rt b = y at *
 refine ACallH.of_body Tryz.func154 rfl (by kernel_rfl) ?_
 simp only [entry, Tryz.ntmps154, List.length_cons, List.length_nil, Nat.reduceAdd, Nat.reduceSub, List.replicate_succ, List.replicate_zero, List.cons_append, List.nil_append]
 by_cases e : x = y
 ·subst e
  rw [decide_eq_true rfl]
  repeat' (first|((first|(refine zT ?_;intro K' hK')|(refine zG ?_ ?_<;>(try refine zH ?_)<;>intro hguard<;>(try exact zX)<;>try intro K' hK'))<;>((try simp +contextual only [go_sem, Int.toNat_natCast, Nat.mul_one, fC_len, fC_set, fC_set2, hlen, hid2, hst, hnew]);(repeat' first|(with_reducible refine hK' _ _ ?_;clear hK' K')|((with_reducible first|refine ⟨_,_,rx,?_⟩|refine ⟨_,rx,?_⟩|refine ⟨_,_,ry,?_⟩|refine ⟨_,ry,?_⟩);try simp +contextual only [go_sem, Int.toNat_natCast, Nat.mul_one, fC_len, fC_set, fC_set2, hlen, hid2, hst, hnew])|exact zY|with_reducible refine And.intro ?_ ?_|(with_reducible intro hpath;try exact zP)|(refine hK' _ _ ?_;clear hK' K')|fail);try refine zS ?_))|(refine zE ?_;refine hK _ _ ?_;clear hK K)|(refine zN ?_;try refine zS ?_)|refine zA ?_|(refine zB ?_;intro K hK)|(refine zC ?_ ?_<;>(try refine zH ?_)<;>intro hcond<;>try exact zX)|fail)
  simp [RetsH, aretH, ares, noTup, Tryz.results154]
 ·rw [decide_eq_false e]
  have eI : ¬ ((x : Int) = (y : Int)) := by omega
  repeat' (first|((first|(refine zT ?_;intro K' hK')|(refine zG ?_ ?_<;>(try refine zH ?_)<;>intro hguard<;>(try exact zX)<;>try intro K' hK'))<;>((try simp +contextual only [go_sem, Int.toNat_natCast, Nat.mul_one, fC_len, fC_set, fC_set2, hlen, hid2, hst, hnew, eI]);(repeat' first|(with_reducible refine hK' _ _ ?_;clear hK' K')|((with_reducible first|refine ⟨_,_,rx,?_⟩|refine ⟨_,rx,?_⟩|refine ⟨_,_,ry,?_⟩|refine ⟨_,ry,?_⟩);try simp +contextual only [go_sem, Int.toNat_natCast, Nat.mul_one, fC_len, fC_set, fC_set2, hlen, hid2, hst, hnew, eI])|exact zY|with_reducible refine And.intro ?_ ?_|(with_reducible intro hpath;try exact zP)|(refine hK' _ _ ?_;clear hK' K')|fail);try refine zS ?_))|(refine zE ?_;refine hK _ _ ?_;clear hK K)|(refine zN ?_;try refine zS ?_)|refine zA ?_|(refine zB ?_;intro K hK)|(refine zC ?_ ?_<;>(try refine zH ?_)<;>intro hcond<;>try exact zX)|fail)
  simp [RetsH, aretH, ares, noTup, Tryz.results154]
theorem conn_parts {g : G} {n : Nat} (hc : checkG g = 0) (hn : g.n = n) : connB g = decide (ncls n (Conn (endsL g.es)) = 1) := by
 unfold connB
 rw [show g.n.toNat = n by omega, parts_ncls hc hn]
theorem given_ok (g : G) (hl : g.es.length ≤ 40) : ACall Tryz.prog 127 [tG g] (.tup [tpairs (if joinedE g ≠ 0 then [] else endsL g.es), tint (joinedE g)]) := by
 have hE := Ends_ok g (by omega)
 have hg := tloose_ok
 by_cases hc : checkG g = 0
 case neg =>
  have ej : joinedE g = checkG g := by unfold joinedE; rw [if_pos hc]
  rw [ej, if_pos hc]
  rw [if_pos hc] at hE
  generalize checkG g = E at *
  obtain ⟨n, es⟩ := g
  refine ACall.of_body Tryz.func127 rfl (by kernel_rfl) ?_
  simp only [entry, Tryz.ntmps127, tG]
  refine zU ?_
  refine zR (zc @hc trivial) (zc hE trivial) trivial ?_
  simp [Rets, aret, Blk.cells, ty, Tryz.results127, ares, toT1, toT, borrow, borrow0, capCell, toTree0, tint, tpairs, pRows]
 have h12 := (checkG_zero.1 hc).1
 obtain ⟨k, hk⟩ := Int.eq_ofNat_of_zero_le (show 0 ≤ g.n by omega)
 have hk' : g.n = (k : Nat) := hk
 have hcp := conn_parts hc hk'
 have hin : InN k (endsL g.es) := fun p hp => ends_in hc hk' p hp
 have hk0 : 0 < k := by omega
 have hk12 : k ≤ 12 := by omega
 have hll : (endsL g.es).length ≤ 2000 := by
  have := endsL_len (es := g.es) fun e he => by have := (checkG_zero.1 hc).2.1 e he; unfold okE at this; omega
  omega
 have ej : joinedE g = if ncls k (Conn (endsL g.es)) = 1 then 0 else 13 := by
  unfold joinedE
  rw [if_neg (by omega), hcp]
  by_cases h : ncls k (Conn (endsL g.es)) = 1
  ·rw [if_pos h, if_pos (by simp [h])]
  ·rw [if_neg h, if_neg (by simp [h])]
 rw [ej]
 rw [if_neg (by omega)] at hE
 clear ej hcp hc h12 hk'
 obtain ⟨n, es⟩ := g
 simp only at hE hk hin hll ⊢
 subst hk
 generalize endsL es = L at *
 have hr12 : (List.range 12).length = 12 := List.length_range
 have hz0 := TCe.zero
 have hnk := conn_nil_ncls k
 have hps := ncls_pos (R := Conn L) hk0
 generalize hR : List.range 12 = R at *
 have hof : (fT R).map ofTree = fC R := fT_of R
 have hst := fC_store zero12 R (by rw [hr12]; rfl)
 have hz : fC zero12 = [.int .i64 0, .int .i64 0, .int .i64 0, .int .i64 0, .int .i64 0, .int .i64 0, .int .i64 0, .int .i64 0, .int .i64 0, .int .i64 0, .int .i64 0, .int .i64 0] := rfl
 rw [hz] at hst
 unfold tF at hg
 change ACall _ _ [tG ⟨((k : Nat) : Int), es⟩] _ at hE
 show ACall _ _ [tG ⟨((k : Nat) : Int), es⟩] _
 refine ACall.of_body Tryz.func127 rfl (by kernel_rfl) ?_
 simp only [entry, Tryz.ntmps127, tG]
 refine zU ?_
 refine zR (zc @pRows_len (zc @fC_len (zc @fC_free (zc @hof (zc @hst (zc @hr12 trivial)))))) (zc hE (zc hg trivial)) trivial ?_
 refine AWp.loopS (α:=(Nat × Int × List Nat)) 35 (fun s=>[(4,.c (.slice (pRows L) .none)),(6,.c (.ptr 1 0)),(7,.c (.int .i64 s.2.1)),(21,.c (.slice (pRows L) .none)),(22,.c (.int .i64 (L.length : Int))),(23,.c (.int .i64 (s.1 : Int)))]) (fun s=>[.box [.int .i64 (k : Int), .slice (eRows es) .none], .box (fC s.2.2)]) (fun s=>s.1 ≤ L.length ∧ s.2.1 = (ncls k (Conn (L.take s.1)) : Nat) ∧ TCe (L.take s.1) s.2.2) (fun s=>L.length - s.1) ((0, (k : Int), R)) (hk:=Weak.headL 2 35 [4, 6, 7, 21, 22, 23] (zV @fC_in)) (h0:=?_) (round:=fun s hI=>?_)
 ·exact ⟨Nat.zero_le _, by simp only [List.take_zero]; rw [hnk], hz0⟩
 ·obtain ⟨i, c, F⟩ := s
  obtain ⟨hi, hcc, hT⟩ := hI
  simp only at hi hcc hT ⊢
  by_cases hlt : i < L.length
  ·have hltI : (i : Int) < L.length := by omega
   have e0 := List.getElem?_eq_getElem hlt
   have e1 := pRows_get e0
   have hsn := take_snoc e0
   have hrng := hin _ (List.getElem_mem hlt)
   generalize L[i] = p at *
   obtain ⟨pa, pb⟩ := p
   obtain ⟨a, rfl⟩ := Int.eq_ofNat_of_zero_le hrng.1.1
   obtain ⟨b, rfl⟩ := Int.eq_ofNat_of_zero_le hrng.2.1
   have ha : a < k := by have := hrng.1.2; simp only at this; omega
   have hb : b < k := by have := hrng.2.2; simp only at this; omega
   change L.take (i + 1) = L.take i ++ [((a : Int), (b : Int))] at hsn
   change (pRows L)[i]? = some [.int .i64 (a : Int), .int .i64 (b : Int)] at e1
   obtain ⟨rt, dp, tc⟩ := hT
   have tn := tc.snoc (a := a) (b := b) (by omega) (by omega)
   rw [← hsn] at tn
   have hJ := tjoin_ok tc.tf a b (by omega) (by omega) (H := [.box [.int .i64 (k : Int), .slice (eRows es) .none], .box (fC F), .box [.int .i64 (a : Int), .int .i64 (b : Int)]]) (id := 1) rfl
   have hcn := tc.conn a b (by omega) (by omega)
   have hcb : (ncls k (Conn (L.take i)) : Int) ≤ 12 := by
    have : ncls k (Conn (L.take i)) ≤ k := by
     unfold ncls
     refine Nat.le_trans (List.length_filter_le _ _) ?_
     rw [List.length_range]; exact Nat.le_refl _
    omega
   by_cases e : rt a = rt b
   ·have hs := ncls_snoc_in (n := k) (hcn.1 e)
    rw [← hsn] at hs
    rw [decide_eq_true e, Bool.not_true] at hJ
    simp only [List.set_cons_succ, List.set_cons_zero, List.cons_append, List.nil_append] at hJ
    repeat' (first|((first|(refine zT ?_;intro K' hK')|(refine zG ?_ ?_<;>(try refine zH ?_)<;>intro hguard<;>(try exact zX)<;>try intro K' hK'))<;>((try simp +contextual only [go_sem, hltI, e1, pRows_len, Int.toNat_natCast]);(repeat' first|(with_reducible refine hK' _ _ ?_;clear hK' K')|((with_reducible first|refine ⟨_,_,hJ,?_⟩|refine ⟨_,hJ,?_⟩);try simp +contextual only [go_sem, hltI, e1, pRows_len, Int.toNat_natCast])|exact zY|with_reducible refine And.intro ?_ ?_|(with_reducible intro hpath;try exact zP)|(refine hK' _ _ ?_;clear hK' K')|fail);try refine zS ?_))|(refine zE ?_;refine hK _ _ ?_;clear hK K)|(refine zN ?_;try refine zS ?_)|refine zA ?_|(refine zB ?_;intro K hK)|(refine zC ?_ ?_<;>(try refine zH ?_)<;>intro hcond<;>try exact zX)|fail)
    refine ⟨(i + 1, c, F.set (rt a) (rt b)),Weak.headN 2 35 [4, 6, 7, 21, 22, 23] (zV @fC_in),?_,?_⟩
    ·exact ⟨hlt, by simp only; omega, tn⟩
    ·simp only; omega
   ·have hs := ncls_snoc_new (n := k) ha hb (fun h => e (hcn.2 h))
    rw [← hsn] at hs
    rw [decide_eq_false e, Bool.not_false] at hJ
    simp only [List.set_cons_succ, List.set_cons_zero, List.cons_append, List.nil_append] at hJ
    repeat' (first|((first|(refine zT ?_;intro K' hK')|(refine zG ?_ ?_<;>(try refine zH ?_)<;>intro hguard<;>(try exact zX)<;>try intro K' hK'))<;>((try simp +contextual only [go_sem, hltI, e1, pRows_len, Int.toNat_natCast]);(repeat' first|(with_reducible refine hK' _ _ ?_;clear hK' K')|((with_reducible first|refine ⟨_,_,hJ,?_⟩|refine ⟨_,hJ,?_⟩);try simp +contextual only [go_sem, hltI, e1, pRows_len, Int.toNat_natCast])|exact zY|with_reducible refine And.intro ?_ ?_|(with_reducible intro hpath;try exact zP)|(refine hK' _ _ ?_;clear hK' K')|fail);try refine zS ?_))|(refine zE ?_;refine hK _ _ ?_;clear hK K)|(refine zN ?_;try refine zS ?_)|refine zA ?_|(refine zB ?_;intro K hK)|(refine zC ?_ ?_<;>(try refine zH ?_)<;>intro hcond<;>try exact zX)|fail)
    refine ⟨(i + 1, c - 1, F.set (rt a) (rt b)),Weak.headN 2 35 [4, 6, 7, 21, 22, 23] (zV @fC_in),?_,?_⟩
    ·exact ⟨hlt, by simp only; omega, tn⟩
    ·simp only; omega
  ·have ei : i = L.length := by omega
   subst ei
   rw [List.take_length] at hcc
   have hnl : ¬ ((L.length : Int) < L.length) := by omega
   by_cases h1 : ncls k (Conn L) = 1
   ·rw [if_pos h1, if_neg (by omega)]
    have hc1 : ¬ (1 < c) := by omega
    refine zR (zc @hnl (zc @hc1 trivial)) trivial trivial ?_
    simp [Rets, aret, Blk.cells, ty, Tryz.results127, ares, toT1, toT, borrow, borrow0, capCell, toTree0, tint, tpairs]
   ·rw [if_neg h1, if_pos (by omega)]
    have hc1 : 1 < c := by omega
    refine zR (zc @hnl (zc @hc1 trivial)) trivial trivial ?_
    simp [Rets, aret, Blk.cells, ty, Tryz.results127, ares, toT1, toT, borrow, borrow0, capCell, toTree0, tint, tpairs, pRows]
theorem acyc_pre {A B : List (Int × Int)} (h : acyc (A ++ B)) : acyc A := fun k p hp => by
 have hk := (List.getElem?_eq_some_iff.1 hp).1
 have := h k p (by rw [List.getElem?_append_left hk]; exact hp)
 rwa [List.take_append_of_le_length (by omega)] at this
theorem spans_ok (n : Nat) (L : List (Int × Int)) (t : List Int) (h0 : 0 < n) (hn : n ≤ 12) (hL : InN n L) (ht : ∀ x, x ∈ t → 0 ≤ x ∧ x < L.length) (hLl : L.length < 2 ^ 40) (htl : t.length < 2 ^ 40) :
  ACall Tryz.prog 130 [tint n, tpairs L, tints t] (tbool (treeB n L t)) := by
 have hg := tloose_ok
 have htb := treeB_acyc h0 hL ht
 have hr12 : (List.range 12).length = 12 := List.length_range
 have hz0 := TCe.zero
 generalize hR : List.range 12 = R at *
 have hof : (fT R).map ofTree = fC R := fT_of R
 have hst := fC_store zero12 R (by rw [hr12]; rfl)
 have hz : fC zero12 = [.int .i64 0, .int .i64 0, .int .i64 0, .int .i64 0, .int .i64 0, .int .i64 0, .int .i64 0, .int .i64 0, .int .i64 0, .int .i64 0, .int .i64 0, .int .i64 0] := rfl
 rw [hz] at hst
 unfold tF at hg
 refine ACall.of_body Tryz.func130 rfl (by kernel_rfl) ?_
 simp only [entry, Tryz.ntmps130, tpairs, tints, tint]
 refine zU ?_
 refine zR (zc @iRows_len (zc @fC_len (zc @fC_free (zc @hof (zc @hst (zc @hr12 trivial)))))) (zc hg trivial) trivial ?_
 refine AWp.loopS (α:=(Nat × List Nat)) 29 (fun s=>[(0,.c (.int .i64 (n : Int))),(1,.c (.slice (pRows L) .none)),(2,.c (.slice (iRows t) .none)),(7,.c (.ptr 0 0)),(11,.c (.slice (iRows t) .none)),(12,.c (.int .i64 (t.length : Int))),(13,.c (.int .i64 (s.1 : Int)))]) (fun s=>[.box (fC s.2)]) (fun s=>s.1 ≤ t.length ∧ TCe (pkL L (t.take s.1)) s.2 ∧ acyc (pkL L (t.take s.1))) (fun s=>t.length - s.1) ((0, R)) (hk:=Weak.headL 1 29 [0, 1, 2, 7, 11, 12, 13] (zV @fC_in)) (h0:=?_) (round:=fun s hI=>?_)
 ·exact ⟨Nat.zero_le _, hz0, acyc_nil⟩
 ·obtain ⟨i, F⟩ := s
  obtain ⟨hi, hT, hac⟩ := hI
  simp only at hi hT hac ⊢
  by_cases hlt : i < t.length
  ·have hltI : (i : Int) < t.length := by omega
   have e0 := List.getElem?_eq_getElem hlt
   have e1 := iRows_get e0
   have hsn : pkL L (t.take (i + 1)) = pkL L (t.take i) ++ [L.getD t[i].toNat (0, 0)] := by
    unfold pkL; rw [List.take_succ_eq_append_getElem hlt, List.map_append]; rfl
   have hpre : pkL L t = pkL L (t.take (i + 1)) ++ pkL L (t.drop (i + 1)) := by
    unfold pkL; rw [← List.map_append, List.take_append_drop]
   have hx := ht _ (List.getElem_mem hlt)
   generalize t[i] = x at *
   obtain ⟨z, rfl⟩ := Int.eq_ofNat_of_zero_le hx.1
   have hzl : z < L.length := by have := hx.2; omega
   have g0 := List.getElem?_eq_getElem hzl
   have g1 := pRows_get g0
   rw [show ((z : Nat) : Int).toNat = z from rfl, List.getD_eq_getElem?_getD, g0, Option.getD_some] at hsn
   have hrng := hL _ (List.getElem_mem hzl)
   generalize L[z] = p at *
   obtain ⟨pa, pb⟩ := p
   obtain ⟨a, rfl⟩ := Int.eq_ofNat_of_zero_le hrng.1.1
   obtain ⟨b, rfl⟩ := Int.eq_ofNat_of_zero_le hrng.2.1
   have ha : a < n := by have := hrng.1.2; simp only at this; omega
   have hb : b < n := by have := hrng.2.2; simp only at this; omega
   change pkL L (t.take (i + 1)) = pkL L (t.take i) ++ [((a : Int), (b : Int))] at hsn
   change (pRows L)[z]? = some [.int .i64 (a : Int), .int .i64 (b : Int)] at g1
   change (iRows t)[i]? = some [.int .i64 (z : Int)] at e1
   have hzI : (z : Int) < (L.length : Int) := by omega
   obtain ⟨rt, dp, tc⟩ := hT
   have tn := tc.snoc (a := a) (b := b) (by omega) (by omega)
   rw [← hsn] at tn
   have hJ := tjoin_ok tc.tf a b (by omega) (by omega) (H := [.box (fC F)]) (id := 0) rfl
   have hcn := tc.conn a b (by omega) (by omega)
   by_cases e : rt a = rt b
   ·have hfalse : treeB n L t = false := by
     rw [Bool.eq_false_iff]
     intro h
     have := acyc_pre (hpre ▸ (htb.1 h).1)
     rw [hsn, acyc_snoc] at this
     exact this.2 (hcn.1 e)
    rw [decide_eq_true e, Bool.not_true] at hJ
    simp only [List.set_cons_succ, List.set_cons_zero, List.cons_append, List.nil_append] at hJ
    rw [hfalse]
    repeat' (first|((first|(refine zT ?_;intro K' hK')|(refine zG ?_ ?_<;>(try refine zH ?_)<;>intro hguard<;>(try exact zX)<;>try intro K' hK'))<;>((try simp +contextual only [go_sem, hltI, e1, g1, hzI, pRows_len, iRows_len, Int.toNat_natCast]);(repeat' first|(with_reducible refine hK' _ _ ?_;clear hK' K')|((with_reducible first|refine ⟨_,_,hJ,?_⟩|refine ⟨_,hJ,?_⟩);try simp +contextual only [go_sem, hltI, e1, g1, hzI, pRows_len, iRows_len, Int.toNat_natCast])|exact zY|with_reducible refine And.intro ?_ ?_|(with_reducible intro hpath;try exact zP)|(refine hK' _ _ ?_;clear hK' K')|fail);try refine zS ?_))|(refine zE ?_;refine hK _ _ ?_;clear hK K)|(refine zN ?_;try refine zS ?_)|refine zA ?_|(refine zB ?_;intro K hK)|(refine zC ?_ ?_<;>(try refine zH ?_)<;>intro hcond<;>try exact zX)|fail)
    simp [Rets, aret, Blk.cells, ty, Tryz.results130, ares, toT1, toT, borrow, borrow0, capCell, toTree0, tbool]
   ·have hac2 : acyc (pkL L (t.take (i + 1))) := by
     rw [hsn, acyc_snoc]
     exact ⟨hac, fun h => e (hcn.2 h)⟩
    rw [decide_eq_false e, Bool.not_false] at hJ
    simp only [List.set_cons_succ, List.set_cons_zero, List.cons_append, List.nil_append] at hJ
    repeat' (first|((first|(refine zT ?_;intro K' hK')|(refine zG ?_ ?_<;>(try refine zH ?_)<;>intro hguard<;>(try exact zX)<;>try intro K' hK'))<;>((try simp +contextual only [go_sem, hltI, e1, g1, hzI, pRows_len, iRows_len, Int.toNat_natCast]);(repeat' first|(with_reducible refine hK' _ _ ?_;clear hK' K')|((with_reducible first|refine ⟨_,_,hJ,?_⟩|refine ⟨_,hJ,?_⟩);try simp +contextual only [go_sem, hltI, e1, g1, hzI, pRows_len, iRows_len, Int.toNat_natCast])|exact zY|with_reducible refine And.intro ?_ ?_|(with_reducible intro hpath;try exact zP)|(refine hK' _ _ ?_;clear hK' K')|fail);try refine zS ?_))|(refine zE ?_;refine hK _ _ ?_;clear hK K)|(refine zN ?_;try refine zS ?_)|refine zA ?_|(refine zB ?_;intro K hK)|(refine zC ?_ ?_<;>(try refine zH ?_)<;>intro hcond<;>try exact zX)|fail)
    refine ⟨(i + 1, F.set (rt a) (rt b)),Weak.headN 1 29 [0, 1, 2, 7, 11, 12, 13] (zV @fC_in),?_,?_⟩
    ·exact ⟨hlt, tn, hac2⟩
    ·simp only; omega
  ·have ei : i = t.length := by omega
   subst ei
   rw [List.take_length] at hac
   have hnl : ¬ ((t.length : Int) < t.length) := by omega
   by_cases hq : (t.length : Int) = (n : Int) - 1
   ·rw [htb.2 ⟨hac, hq⟩]
    refine zR (zc @hnl (zc @iRows_len (zc @hq trivial))) trivial trivial ?_
    simp [Rets, aret, Blk.cells, ty, Tryz.results130, ares, toT1, toT, borrow, borrow0, capCell, toTree0, tbool]
   ·have hfalse : treeB n L t = false := by
     rw [Bool.eq_false_iff]
     exact fun h => hq (htb.1 h).2
    rw [hfalse]
    refine zR (zc @hnl (zc @iRows_len (zc @hq trivial))) trivial trivial ?_
    simp [Rets, aret, Blk.cells, ty, Tryz.results130, ares, toT1, toT, borrow, borrow0, capCell, toTree0, tbool]
def setF (s : Nat → Nat) (T : List Nat) (x : Nat) : Nat := if x / 2 ∈ T then s (oppH x) else s x
theorem setF_snoc (s : Nat → Nat) {T : List Nat} {e : Nat} (he : ¬ e ∈ T) : setF s (T ++ [e]) = swapF (setF s T) (2 * e) (2 * e + 1) := by
 have e1 : oppH (2 * e) = 2 * e + 1 := by unfold oppH; omega
 have e2 : oppH (2 * e + 1) = 2 * e := by unfold oppH; omega
 have d1 : 2 * e / 2 = e := by omega
 have d2 : (2 * e + 1) / 2 = e := by omega
 funext x
 unfold swapF setF
 by_cases h1 : x = 2 * e
 ·subst h1
  rw [if_pos (by rw [d1]; simp), if_pos rfl, d2, if_neg he, e1]
 ·by_cases h2 : x = 2 * e + 1
  ·subst h2
   rw [if_pos (by rw [d2]; simp), if_neg (by omega), if_pos rfl, d1, if_neg he, e2]
  ·rw [if_neg h1, if_neg h2]
   have h3 : x / 2 ≠ e := by omega
   by_cases h4 : x / 2 ∈ T
   ·rw [if_pos (by simp [h4]), if_pos h4]
   ·rw [if_neg (by simp [h4, h3]), if_neg h4]
def pkN (L : List (Int × Int)) (T : List Nat) : List (Int × Int) := T.map fun e => L.getD e (0, 0)
theorem pkN_pkL (L : List (Int × Int)) (T : List Nat) : pkN L T = pkL L (T.map fun e : Nat => (e : Int)) := by
 unfold pkN pkL
 rw [List.map_map]
 exact List.map_congr_left fun e _ => rfl
section
variable {E n : Nat} {L : List (Int × Int)} {s g : Nat → Nat}
theorem Emb.set_tour (h : Emb E n L s g) (hb : ∀ x y, x < 2 * E → y < 2 * E → (cycR s x y ↔ g x = g y)) {T : List Nat} (hn : T.Nodup) (hT : ∀ e, e ∈ T → e < E) (ha : acyc (pkN L T)) :
  ∀ k, k ≤ T.length → PermN (2 * E) (setF s (T.take k)) ∧ ∀ x y, x < 2 * E → y < 2 * E → (cycR (setF s (T.take k)) x y ↔ Conn (pkN L (T.take k)) (g x) (g y))
 | 0, _ => by
  have e : setF s (T.take 0) = s := by funext x; simp [setF]
  rw [e]
  refine ⟨h.perm, fun x y hx hy => ?_⟩
  rw [hb x y hx hy]
  show _ ↔ Conn [] _ _
  exact conn_none.symm
 | k + 1, hk => by
  obtain ⟨ih1, ih2⟩ := h.set_tour hb hn hT ha k (by omega)
  have hkl : k < T.length := by omega
  have hel := hT _ (List.getElem_mem hkl)
  have htk : T.take (k + 1) = T.take k ++ [T[k]] := List.take_succ_eq_append_getElem hkl
  have hne : ¬ T[k] ∈ T.take k := fun hm => by
   obtain ⟨j, hj, e⟩ := List.getElem_of_mem hm
   rw [List.length_take] at hj
   rw [List.getElem_take] at e
   exact List.pairwise_iff_getElem.1 hn j k (by omega) hkl (by omega) e
  have hLe := h.ends T[k] hel
  have hpk : pkN L (T.take (k + 1)) = pkN L (T.take k) ++ [(((g (2 * T[k]) : Nat) : Int), ((g (2 * T[k] + 1) : Nat) : Int))] := by
   rw [htk]; unfold pkN
   rw [List.map_append]
   simp only [List.map_cons, List.map_nil]
   rw [List.getD_eq_getElem?_getD, hLe]; rfl
  have hnc : ¬ Conn (pkN L (T.take k)) (g (2 * T[k])) (g (2 * T[k] + 1)) := by
   have hg : (pkN L T)[k]? = some (((g (2 * T[k]) : Nat) : Int), ((g (2 * T[k] + 1) : Nat) : Int)) := by
    unfold pkN
    rw [List.getElem?_map, List.getElem?_eq_getElem hkl]
    simp only [Option.map_some]
    rw [List.getD_eq_getElem?_getD, hLe]; rfl
   have := ha k _ hg
   have e : (pkN L T).take k = pkN L (T.take k) := by unfold pkN; rw [List.map_take]
   rw [e] at this
   simpa using this
  rw [hpk, htk, setF_snoc s hne]
  generalize T[k] = e at *
  have hnb : ¬ cycR (setF s (T.take k)) (2 * e) (2 * e + 1) := fun hc => hnc ((ih2 _ _ (by omega) (by omega)).1 hc)
  refine ⟨swap_perm ih1 (by omega) (by omega), fun x y hx hy => ?_⟩
  rw [swap_join ih1 (by omega) (by omega) hnb x y hx hy, conn_snoc, ih2 x y hx hy, ih2 _ x (by omega) hx, ih2 _ x (by omega) hx, ih2 _ y (by omega) hy, ih2 _ y (by omega) hy]
theorem Emb.cut_one (h : Emb E n L s g) (hb : ∀ x y, x < 2 * E → y < 2 * E → (cycR s x y ↔ g x = g y)) {T : List Nat} (hn : T.Nodup) (hT : ∀ e, e ∈ T → e < E) (ha : acyc (pkN L T)) (hc : ∀ u v, u < n → v < n → Conn (pkN L T) u v)
  {P : Nat → Prop} (h1 : ∀ x, x < 2 * E → P x → P (s (oppH x))) (h2 : ∀ x, x < 2 * E → ¬ x / 2 ∈ T → P x → P (oppH x)) {x y : Nat} (hx : x < 2 * E) (hy : y < 2 * E) (hP : P x) : P y := by
 obtain ⟨q1, q2⟩ := h.set_tour hb hn hT ha T.length (Nat.le_refl _)
 rw [List.take_length] at q1 q2
 obtain ⟨i, rfl⟩ := (q2 x y hx hy).2 (hc _ _ (h.lt x hx) (h.lt y hy))
 clear hy
 induction i with
 | zero => exact hP
 | succ i ih =>
  have hl := q1.it_lt hx i
  show P (setF s T (it (setF s T) i x))
  generalize it (setF s T) i x = z at *
  unfold setF
  by_cases hz : z / 2 ∈ T
  ·rw [if_pos hz]; exact h1 z hl ih
  ·rw [if_neg hz]
   have h3 := h2 z hl hz ih
   have h4 := h1 (oppH z) (by unfold oppH; omega) h3
   have e : oppH (oppH z) = z := by unfold oppH; omega
   rwa [e] at h4
end
def natI (l : List Nat) : List Int := l.map fun x : Nat => (x : Int)
theorem tab_ne {N : Nat} {g : Nat → Int} (h : N ≠ 0) : ¬ iC (tabI N g) = [] := fun e => by
 have := congrArg List.length e
 rw [iC_len, tabI_len] at this
 exact h this
theorem natI_len (l : List Nat) : (natI l).length = l.length := by simp [natI]
theorem natI_snoc (l : List Nat) (x : Nat) : natI (l ++ [x]) = natI l ++ [(x : Int)] := by simp [natI]
theorem itemsN_ps {l : List Nat} {n : Nat} (hn : n = 1) (k : Nat) (ts : List TVal) (h : (itemsN l)[k]? = some ts) : ts.length = n := by
 obtain ⟨p, _, rfl⟩ := itemsN_inv h; exact hn.symm
def fI (f : Nat → Nat) (N k : Nat) : List (List Int) := (facesN f N k).map natI
theorem fI_succ (f : Nat → Nat) (N k : Nat) : fI f N (k + 1) = if leadB f N k = true then fI f N k ++ [natI (faceF f N k)] else fI f N k := by
 unfold fI
 rw [facesN_succ]
 cases leadB f N k <;> simp
theorem fI_len (f : Nat → Nat) (N k : Nat) : (fI f N k).length = (facesN f N k).length := by simp [fI]
theorem facesN_le (f : Nat → Nat) (N k : Nat) : (facesN f N k).length ≤ k := by
 unfold facesN leadsL
 rw [List.length_map]
 exact Nat.le_trans (List.length_filter_le _ _) (by simp)
def ofK (f : Nat → Nat) (N h k x : Nat) : Int := if x ∈ (faceF f N h).take k then ((facesN f N h).length : Int) else ofN f N h x
theorem ofK_step {f : Nat → Nat} {N h k x : Nat} (hx : (faceF f N h)[k]? = some x) (hl : x < N) : (tabI N (ofK f N h k)).set x ((facesN f N h).length : Int) = tabI N (ofK f N h (k + 1)) := by
 rw [tabI_set _ _ hl]
 refine tabI_congr fun j hj => ?_
 unfold ofK
 rw [take_snoc hx]
 by_cases e : j = x
 ·subst e; rw [if_pos rfl, if_pos (by simp)]
 ·rw [if_neg e]
  by_cases h1 : j ∈ (faceF f N h).take k
  ·rw [if_pos h1, if_pos (by simp [h1])]
  ·rw [if_neg h1, if_neg (by simp [h1, e])]
theorem ofK_all {f : Nat → Nat} {N h : Nat} (hp : PermN N f) (hh : h < N) (hb : leadB f N h = true) : tabI N (ofK f N h (faceF f N h).length) = tabI N (ofN f N (h + 1)) := by
 refine tabI_congr fun j hj => ?_
 rw [ofN_succ hp hh hb]
 unfold ofK
 rw [List.take_length]
theorem ofK_zero (f : Nat → Nat) (N h : Nat) : tabI N (ofK f N h 0) = tabI N (ofN f N h) := by
 refine tabI_congr fun j hj => ?_
 unfold ofK
 rw [List.take_zero, if_neg (by simp)]
theorem ofN_zero (f : Nat → Nat) (N : Nat) : List.replicate N (-1 : Int) = tabI N (ofN f N 0) := by
 rw [tabI, eq_comm, List.eq_replicate_iff]
 exact ⟨by simp, fun x hx => by obtain ⟨_, _, rfl⟩ := List.mem_map.1 hx; rfl⟩
theorem ofN_keep {f : Nat → Nat} {N h : Nat} (hb : leadB f N h = false) : tabI N (ofN f N h) = tabI N (ofN f N (h + 1)) := tabI_congr fun j hj => (ofN_same hb).symm
theorem ofN_range (f : Nat → Nat) (N k x : Nat) : -1 ≤ ofN f N k x ∧ ofN f N k x < k + 1 := by
 unfold ofN
 cases hx : (facesN f N k).findIdx? (fun l => decide (x ∈ l)) with
 | none => simp only; omega
 | some i =>
  have := (List.findIdx?_eq_some_iff_getElem.1 hx).1
  have := facesN_le f N k
  simp only; omega
theorem iC_ref {B : List Int} {n : Nat} (h : B.length = n) {H : List Blk} {id : Nat} (hid : H[id]? = some (.box (iC B))) : borrow H (.ref id 1 0 n n) = some (.slice (iRows B)) := by
 have e : borrow H (.ref id 1 0 n n) = borrow0 H (.ref id 1 0 n n) := rfl
 have hf := refRows_flat (rows := iRows B) (k := 1) (cap := n) (fun r hr => iRows_k' hr) (fun r hr => by obtain ⟨b, _, rfl⟩ := List.mem_map.1 hr; rfl) (by rw [iRows_len]; omega)
 rw [flat_iRows, iRows_len, h] at hf
 unfold refRows at hf
 rw [e]
 simp only [borrow0, hid, Blk.cells, Option.bind_some]
 split at hf
 ·rename_i hc
  rw [if_pos hc]
  cases hm : (((iC B).drop 0).take (n * 1)).mapM toTree0 with
  | none => rw [hm] at hf; simp at hf
  | some ts =>
   rw [hm] at hf
   simp only [Option.bind_some] at hf
   split at hf
   ·simp at hf; simp [hf]
   ·simp at hf
 ·simp at hf
def facesI (r : R) : List (List Int) := (facesR r).map natI
theorem faces_ok (r : R) (hs : RSm r) (hr : ROk r) : ACall Tryz.prog 50 [tR r, tint (endsL r.es).length]
  (.tup [tlists (facesI r), tints (tabI (2 * (endsL r.es).length) (ofN (fR (endsL r.es) r.ar) (2 * (endsL r.es).length) (2 * (endsL r.es).length)))]) := by
 have hB := behind_ok r hs hr
 have hp := hr.perm
 have hlen : (endsL r.es).length ≤ 2000 := ends_len (g := r.g) hs.es hr.c
 have hnx : ∀ x, x < 2 * (endsL r.es).length → (tabI (2 * (endsL r.es).length) (nextR (endsL r.es) r.ar))[oppH x]? = some ((fR (endsL r.es) r.ar x : Nat) : Int) := fun x hx => by
  rw [tabI_get _ (oppH_lt hx)]
  have := hr.next (oppH_lt hx)
  unfold fR
  congr 1; omega
 have hev : ∀ x, x < 2 * (endsL r.es).length → oppH x < 2 * (endsL r.es).length := fun x hx => oppH_lt hx
 have hnl := tabI_len (2 * (endsL r.es).length) (nextR (endsL r.es) r.ar)
 have hF : facesI r = if (endsL r.es).length = 0 then [[]] else fI (fR (endsL r.es) r.ar) (2 * (endsL r.es).length) (2 * (endsL r.es).length) := by
  unfold facesI facesR fI
  split <;> rfl
 rw [hF]
 clear hF hs hr
 obtain ⟨n, es, ar⟩ := r
 simp only at hB hp hlen hnx hev hnl ⊢
 generalize hLe : endsL es = L at *
 clear hLe
 generalize hm : L.length = m at *
 generalize tabI (2 * m) (nextR L ar) = nexts at *
 generalize fR L ar = f at *
 have hRep := Repeat_ok (2 * m) (by omega) [.box [.int .i64 n, .slice (eRows es) .none, .slice (llRows ar) .none]] (by
  intro b hb
  simp only [List.mem_cons, List.not_mem_nil, or_false] at hb
  subst hb
  intro c hc
  simp only [List.mem_cons, List.not_mem_nil, or_false] at hc
  rcases hc with rfl | rfl | rfl <;> exact True.intro)
 simp only [List.cons_append, List.nil_append, List.length_cons, List.length_nil, Nat.zero_add] at hRep
 have h2 : (2 : Int) * (m : Int) = ((2 * m : Nat) : Int) := by omega
 refine ACall.of_body Tryz.func50 rfl (by kernel_rfl) ?_
 simp only [entry, Tryz.ntmps50, tR, tint]
 refine zU ?_
 repeat' ((fail_if_success (with_reducible refine AWp.atSeq 4 ?_));(fail_if_success (with_reducible refine AWp.atLast 4 ?_));first|((first|(refine zT ?_;intro K' hK')|(refine zG ?_ ?_<;>(try refine zH ?_)<;>intro hguard<;>(try exact zX)<;>try intro K' hK'))<;>((try simp +contextual only [go_sem, h2, chunks, List.range, List.range.loop]);(repeat' first|(with_reducible refine hK' _ _ ?_;clear hK' K')|((with_reducible first|refine zK hB ?_|refine ⟨_,_,hRep,?_⟩|refine ⟨_,hRep,?_⟩);try simp +contextual only [go_sem, h2, chunks, List.range, List.range.loop])|exact zY|with_reducible refine And.intro ?_ ?_|(with_reducible intro hpath;try exact zP)|(refine hK' _ _ ?_;clear hK' K')|fail);try refine zS ?_))|(refine zE ?_;refine hK _ _ ?_;clear hK K)|(refine zN ?_;try refine zS ?_)|refine zA ?_|(refine zB ?_;intro K hK)|(refine zC ?_ ?_<;>(try refine zH ?_)<;>intro hcond<;>try exact zX)|fail)
 refine AWp.weak (Weak.openB 3 0 1 rfl rfl (by omega)) ?_
 simp only [List.set_cons_succ, List.set_cons_zero, List.length_cons, List.length_nil, List.length_append, Nat.reduceAdd, List.cons_append, List.nil_append]
 rw [ofN_zero f (2 * m)]
 refine zR (zc @h2 trivial) trivial trivial ?_
 refine AWp.loopS (α:=Nat) 52 (fun h=>[(1,.c (.int .i64 (m : Int))),(6,.c (.slice (iRows nexts) .none)),(7,.c (.ptr 2 0)),(8,.c (.ptr 3 0)),(20,.c (.int .i64 ((2 * m : Nat) : Int))),(21,.c (.int .i64 (h : Int)))]) (fun h=>[.box [.int .i64 n, .slice (eRows es) .none, .slice (llRows ar) .none], .box (iC (tabI (2 * m) (ofN f (2 * m) h))), .box [.ref 1 1 0 (2 * m) (2 * m)], .box [.slice (llRows (fI f (2 * m) h)) (.chain 4)], .chain (fI f (2 * m) h).length 1]) (fun h=>h ≤ 2 * m) (fun h=>2 * m - h) (0) (hk:=Weak.headL 5 52 [1, 6, 7, 8, 20, 21] (zV @iC_in)) (h0:=?_) (round:=fun h hI=>?_)
 ·exact Nat.zero_le _
 ·have hh : h ≤ 2 * m := hI
  clear hI
  have hfl : (fI f (2 * m) h).length ≤ h := by rw [fI_len]; exact facesN_le _ _ _
  by_cases hlt : h < 2 * m
  ·have hltI : (h : Int) < ((2 * m : Nat) : Int) := by omega
   have e0 := tabI_get (ofN f (2 * m) h) hlt
   have d1 := iC_drop e0
   have g1 := iC_get e0
   have htl := tabI_len (2 * m) (ofN f (2 * m) h)
   have hneg := ofN_neg hp hlt
   have hsucc := fI_succ f (2 * m) h
   cases hb : leadB f (2 * m) h with
   | false =>
    have hge : 0 ≤ ofN f (2 * m) h h := by
     apply Classical.byContradiction; intro hc
     have := hneg.1 (by omega)
     rw [hb] at this; cases this
    rw [hb, if_neg (by simp)] at hsucc
    have hkp := ofN_keep (N := 2 * m) hb
    rw [hkp] at d1 g1 htl ⊢
    generalize ofN f (2 * m) h h = v at *
    refine zR (zc @hltI (zc @d1 (zc @g1 (zc @iC_len (zc @htl (zc @hge trivial)))))) trivial trivial ?_
    refine ⟨h + 1,Weak.headF 5 52 [1, 6, 7, 8, 20, 21] (zc @hsucc trivial) (zV @iC_in),?_,?_⟩
    ·exact hlt
    ·omega
   | true =>
    have hlt0 : ofN f (2 * m) h h < 0 := hneg.2 hb
    have hge : ¬ 0 ≤ ofN f (2 * m) h h := by omega
    rw [hb, if_pos rfl] at hsucc
    have hO := orbit_ok nexts h
    have hall := ofK_all hp hlt hb
    have hz := ofK_zero f (2 * m) h
    generalize hv : ofN f (2 * m) h h = v at *
    repeat' ((fail_if_success (with_reducible refine AWp.atSeq 9 ?_));(fail_if_success (with_reducible refine AWp.atLast 9 ?_));first|((first|(refine zT ?_;intro K' hK')|(refine zG ?_ ?_<;>(try refine zH ?_)<;>intro hguard<;>(try exact zX)<;>try intro K' hK'))<;>((try simp +contextual only [go_sem, hltI, d1, g1, iC_len, htl, Int.toNat_natCast, Nat.mul_one, hge]);(repeat' first|(with_reducible refine hK' _ _ ?_;clear hK' K')|(with_reducible refine zK hO ?_;try simp +contextual only [go_sem, hltI, d1, g1, iC_len, htl, Int.toNat_natCast, Nat.mul_one, hge])|exact zY|with_reducible refine And.intro ?_ ?_|(with_reducible intro hpath;try exact zP)|(refine hK' _ _ ?_;clear hK' K')|fail);try refine zS ?_))|(refine zE ?_;refine hK _ _ ?_;clear hK K)|(refine zN ?_;try refine zS ?_)|refine zA ?_|(refine zB ?_;intro K hK)|(refine zC ?_ ?_<;>(try refine zH ?_)<;>intro hcond<;>try exact zX)|fail)
    refine AWp.weak (Weak.openB 5 0 1 rfl rfl (by omega)) ?_
    simp only [List.set_cons_succ, List.set_cons_zero, List.length_cons, List.length_nil, List.length_append, Nat.reduceAdd, List.cons_append, List.nil_append]
    refine zR trivial (zc hO trivial) trivial ?_
    rw [← hz]
    refine AWp.weak (Weak.head (m := 7) (by omega) ((fun t f => [f, t, f, f, f, f, t, t, t, t, t, f, f, f, f, f, f, f, f, f, t, t, f, f, f, f, f, f, f, f, f, t, f, f, f, f, f, f, f, f, f, f, f, f, f, f, f, f, f, f, f, f]) true false) (by first | rfl | simp [mask]) (by first | rfl | simp) (by (repeat' (first | exact valsIn_nil _ | refine valsIn_cons ?_ ?_ | refine cellsIn_cons ?_ ?_ | exact cellsIn_nil _ | exact True.intro | (show _ < _; omega) | (intro c hc; cases hc; done) | (intro c hc; simp only [List.mem_cons, List.not_mem_nil, or_false] at hc; subst hc; exact True.intro) | (intro c hc; simp only [List.mem_cons, List.not_mem_nil, or_false] at hc; rcases hc with rfl | rfl <;> exact True.intro)))) (by (repeat' (first | exact valsIn_nil _ | exact blksIn_nil _ | exact cellsIn_nil _ | refine And.intro ?_ ?_ | refine valsIn_cons ?_ ?_ | refine blksIn_cons ?_ ?_ | refine cellsIn_cons ?_ ?_ | exact True.intro | exact iC_in | (show _ < _; omega) | exact cellsIn_map (fun _ => True.intro) | (intro c hc; cases hc; done) | (intro c hc; simp only [List.mem_cons, List.not_mem_nil, or_false] at hc; subst hc; exact True.intro) | (intro c hc; simp only [List.mem_cons, List.not_mem_nil, or_false] at hc; rcases hc with rfl | rfl <;> exact True.intro))))) (AWp.rangeFunc (fun k H => H = [.box [.int .i64 n, .slice (eRows es) .none, .slice (llRows ar) .none], .box (iC (tabI (2 * m) (ofK f (2 * m) h k))), .box [.ref 1 1 0 (2 * m) (2 * m)], .box [.slice (llRows (fI f (2 * m) h)) (.chain 4)], .chain (fI f (2 * m) h).length 1, .box [.slice (iRows (natI ((faceF f (2 * m) h).take k))) (.chain 6)], .chain ((faceF f (2 * m) h).take k).length 1] ∧ (True)) (fun _ _ => False) 7 rfl (orbit1_ok hp (by omega) nexts hnl hev hnx h hlt) (itemsN_ps rfl) (by omega) (by (repeat' (first | exact valsIn_nil _ | refine valsIn_cons ?_ ?_ | refine cellsIn_cons ?_ ?_ | exact cellsIn_nil _ | exact True.intro | (show _ < _; omega) | (intro c hc; cases hc; done) | (intro c hc; simp only [List.mem_cons, List.not_mem_nil, or_false] at hc; subst hc; exact True.intro) | (intro c hc; simp only [List.mem_cons, List.not_mem_nil, or_false] at hc; rcases hc with rfl | rfl <;> exact True.intro)))) (by rintro _ _ ⟨rfl, -⟩; simp [tab_ne (show 2 * m ≠ 0 by omega)]) (fun _ _ h => h.elim) ?_ (fun l k ts H hts hI => ?_) (fun H hI => ?_) (fun e H h => h.elim))
    ·exact ⟨rfl, trivial⟩
    ·obtain ⟨rfl, -⟩ := hI
     obtain ⟨x, hx, rfl⟩ := itemsN_inv hts
     have hxl : x < 2 * m := face_lt hp hlt (List.mem_of_getElem? hx)
     have hxI : (x : Int) < ((2 * m : Nat) : Int) := by omega
     have hst := ofK_step hx hxl
     rw [← fI_len] at hst
     have htK := tabI_len (2 * m) (ofK f (2 * m) h k)
     have hkl : k < (faceF f (2 * m) h).length := (List.getElem?_eq_some_iff.1 hx).1
     have hfl2 := face_len hp hlt
     have hsn := take_snoc hx
     have hns := natI_snoc ((faceF f (2 * m) h).take k) x
     rw [← hsn] at hns
     have hlk : (natI ((faceF f (2 * m) h).take k)).length = k := by rw [natI_len, List.length_take]; omega
     have hlk0 : ((faceF f (2 * m) h).take k).length = k := by rw [List.length_take]; omega
     have hlk1 : ((faceF f (2 * m) h).take (k + 1)).length = k + 1 := by rw [List.length_take]; omega
     have hrs := iRows_snoc (natI ((faceF f (2 * m) h).take k)) (x : Int)
     rw [← hns] at hrs
     generalize hT2 : natI ((faceF f (2 * m) h).take (k + 1)) = T2 at *
     generalize natI ((faceF f (2 * m) h).take k) = T1 at *
     generalize hO2 : tabI (2 * m) (ofK f (2 * m) h (k + 1)) = O2 at *
     generalize tabI (2 * m) (ofK f (2 * m) h k) = O1 at *
     simp only [mask, setPs, List.zip_cons_cons, List.zip_nil_right, List.zip_nil_left, List.foldl_cons, List.foldl_nil, List.set_cons_succ, List.set_cons_zero, ofT, ofT1, ofTree, List.map_cons, List.map_nil, ofT, ofT1, toT, toT1, toTree0, tint, tbool, tpair, tG, tpairs, tints]
     refine zRc (zc @hxI (zc @llRows_len (zc @iC_set (zc @hst (zc @iC_len (zc @htK (zc @hrs (zc @iRows_len (zc @hlk (zc @hlk0 trivial)))))))))) trivial @iRows_k' ?_
     refine ⟨⟨_, _⟩, Weak.head2 (m := 7) (by decide) ((fun t f => [f, f, f, f, f, f, f, f, f, f, f, f, f, f, f, f, f, f, f, f, f, f, f, f, f, f, f, f, f, f, f, f, f, f, f, f, f, f, f, f, f, f, f, f, f, f, f, f, f, f, f, f]) true false) rfl rfl (zV @iC_in), ?_, ?_⟩
     ·simp [hT2, hO2, hlk1]
     ·trivial
    ·obtain ⟨rfl, -⟩ := hI
     rw [itemsN_len, hall, List.take_length]
     have hsr := llRows_snoc (fI f (2 * m) h) (natI (faceF f (2 * m) h))
     rw [← hsucc] at hsr
     have hln : (fI f (2 * m) (h + 1)).length = (fI f (2 * m) h).length + 1 := by rw [hsucc]; simp
     simp only [mask]
     refine zRc (zc @llRows_len (zc @hsr trivial)) trivial @llRows_k' ?_
     refine ⟨h + 1,Weak.headF 5 52 [1, 6, 7, 8, 20, 21] (zc @hln trivial) (zV @iC_in),?_,?_⟩
     ·exact hlt
     ·omega
  ·have eh : h = 2 * m := by omega
   subst eh
   have hnl2 : ¬ (((2 * m : Nat) : Int) < ((2 * m : Nat) : Int)) := by omega
   have htl := tabI_len (2 * m) (ofN f (2 * m) (2 * m))
   generalize tabI (2 * m) (ofN f (2 * m) (2 * m)) = B at *
   have hbr : ∀ a c d e : Blk, borrow [a, .box (iC B), c, d, e] (.ref 1 1 0 (2 * m) (2 * m)) = some (.slice (iRows B)) := fun a c d e => iC_ref htl rfl
   have hbs : ∀ (H : List Blk) rows tok, borrow H (.slice rows tok) = some (.slice rows) := fun _ _ _ => rfl
   by_cases hz : m = 0
   ·rw [if_pos hz]
    have hzI : (m : Int) = 0 := by omega
    refine zRc (zc @hnl2 (zc @hzI trivial)) trivial trivial ?_
    simp [Rets, aret, Tryz.results50, ares, toT1, toT, tlists, tints, hbr, hbs, llRows, iRows]
   ·rw [if_neg hz]
    have hzI : ¬ ((m : Int) = 0) := by omega
    refine zR (zc @hnl2 (zc @hzI trivial)) trivial trivial ?_
    simp [Rets, aret, Tryz.results50, ares, toT1, toT, tlists, tints, hbr, hbs]
end Go.Proofs.YtfkegnhpihoncaaGreat
