/- A part of the proof. -/
import Derived.Test.YtfkegnhpihoncaaGreatPart39
import Derived.Test.YtfkegnhpihoncaaGreatPart09
import Derived.Test.YtfkegnhpihoncaaGreatLayerC
import Derived.Test.YtfkegnhpihoncaaGreatPart32
import Derived.Test.YtfkegnhpihoncaaGreatPart35
import Derived.Test.YtfkegnhpihoncaaGreatPart36
import Derived.Test.YtfkegnhpihoncaaGreatPart33
set_option linter.all false
set_option maxHeartbeats 4000000
set_option maxRecDepth 100000
namespace Go.Proofs.YtfkegnhpihoncaaGreat
open Go.Sp
theorem grow_point (n : Nat) (hn : n = 1) (L : List (Int × Int)) (l : Nat) (J : Nat → Sig → World → Prop) (Jx : Sig → World → Prop) (hJ : ∀ k, Clo (J k)) (hJx : Clo Jx)
  (hY : YStep Tryz.prog l (J 0) [tnats []] (J 1) Jx) (F : List Nat) (hfl : F.length = 12) (H1 : List Blk) (hG : GH l n L H1) :
   ACallE Tryz.prog 156 (.ghost (J 0) :: H1) ([.c .nils, .c (.int .i64 0), .agg (fC F)] ++ (growCaps n L).map capVal)
    (fun H' r => ∃ X, (r = .c (.bool true) ∧ H' = .ghost (J 1) :: (H1 ++ X)) ∨ (r = .c (.bool false) ∧ H' = .ghost Jx :: (H1 ++ X))) := by
 subst hn
 refine ACallE.of_body Tryz.func156 rfl (by kernel_rfl) ?_
 simp only [entry, growCaps, capVal, ofTree, List.map_cons, List.map_nil, Tryz.ntmps156, List.length_cons, List.length_nil, Nat.reduceAdd, Nat.reduceSub, List.replicate_succ, List.replicate_zero, List.cons_append, List.nil_append]
 have hC : ACallH Tryz.prog 64 (.ghost (J 0) :: (H1 ++ [.box (fC F)])) [.c .nils] (.ghost (J 0) :: (H1 ++ [.box (fC F)])) (ofT (tnats [])) := ACall.h CloneT_nil rfl
 have hy := hG.yld [.box (fC F)]
 repeat' ((fail_if_success (with_reducible refine AWp.atSeq 2 ?_));(fail_if_success (with_reducible refine AWp.atLast 2 ?_));first|((first|(refine zT ?_;intro K' hK')|(refine zG ?_ ?_<;>(try refine zH ?_)<;>intro hguard<;>(try exact zX)<;>try intro K' hK'))<;>((try simp +contextual only [go_sem, fC_len, hfl]);(repeat' first|(with_reducible refine hK' _ _ ?_;clear hK' K')|exact zY|with_reducible refine And.intro ?_ ?_|(with_reducible intro hpath;try exact zP)|(refine hK' _ _ ?_;clear hK' K')|fail);try refine zS ?_))|(refine zE ?_;refine hK _ _ ?_;clear hK K)|(refine zN ?_;try refine zS ?_)|refine zA ?_|(refine zB ?_;intro K hK)|(refine zC ?_ ?_<;>(try refine zH ?_)<;>intro hcond<;>try exact zX)|fail)
 refine AWp.seq (AWp.of_adr (by kernel_rfl) ?_)
 refine ADr.seg' 3 2 [(18, .c (.yld l)), (19, .c .nils)] (by kernel_rfl) (by kernel_rfl) rfl (.inl ⟨rfl, (step_call _ _ _ rfl 64 [] rfl _ hC).n⟩) (zQ hy) (by rintro r H' ⟨rfl, rfl⟩; exact zQ hy) ?_
 rintro r H' ⟨rfl, rfl⟩
 simp only [setVals, aput, aeval, List.getD_cons_succ, List.getD_cons_zero, List.set_cons_succ, List.set_cons_zero]
 refine ADr.one' (by kernel_rfl) rfl (.inl ⟨rfl, step_yield (ts := [tnats []]) rfl rfl rfl (okF hG.ok hfl) hY (hJ _) hJx⟩) ?_
 rintro r H' (⟨rfl, rfl⟩ | ⟨rfl, rfl⟩)
 ·
  simp only [setVals, aput, aeval, List.getD_cons_succ, List.getD_cons_zero, List.set_cons_succ, List.set_cons_zero]
  refine ADr.run 1 (by kernel_rfl) (by decide) (fun K hK => ?_)
  simp only [Nat.reduceAdd, List.drop_succ_cons, List.drop_zero, List.take_succ_cons, List.take_zero]
  repeat' (first|((first|(refine zT ?_;intro K' hK')|(refine zG ?_ ?_<;>(try refine zH ?_)<;>intro hguard<;>(try exact zX)<;>try intro K' hK'))<;>((try simp +contextual only [go_sem]);(repeat' first|(with_reducible refine hK' _ _ ?_;clear hK' K')|exact zY|with_reducible refine And.intro ?_ ?_|(with_reducible intro hpath;try exact zP)|(refine hK' _ _ ?_;clear hK' K')|fail);try refine zS ?_))|(refine zE ?_;refine hK _ _ ?_;clear hK K)|(refine zN ?_;try refine zS ?_)|fail)
  try simp only [Nat.reduceAdd]
  refine ADr.done (by decide) ?_
  refine zR trivial trivial trivial ?_
  exact ⟨trivial, _, ⟨_, .inl ⟨rfl, rfl⟩⟩, by simp [aretH, ares, noTup, Tryz.results156]⟩
 ·
  simp only [setVals, aput, aeval, List.getD_cons_succ, List.getD_cons_zero, List.set_cons_succ, List.set_cons_zero]
  refine ADr.run 1 (by kernel_rfl) (by decide) (fun K hK => ?_)
  simp only [Nat.reduceAdd, List.drop_succ_cons, List.drop_zero, List.take_succ_cons, List.take_zero]
  repeat' (first|((first|(refine zT ?_;intro K' hK')|(refine zG ?_ ?_<;>(try refine zH ?_)<;>intro hguard<;>(try exact zX)<;>try intro K' hK'))<;>((try simp +contextual only [go_sem]);(repeat' first|(with_reducible refine hK' _ _ ?_;clear hK' K')|exact zY|with_reducible refine And.intro ?_ ?_|(with_reducible intro hpath;try exact zP)|(refine hK' _ _ ?_;clear hK' K')|fail);try refine zS ?_))|(refine zE ?_;refine hK _ _ ?_;clear hK K)|(refine zN ?_;try refine zS ?_)|fail)
  try simp only [Nat.reduceAdd]
  refine ADr.done (by decide) ?_
  refine zR trivial trivial trivial ?_
  exact ⟨trivial, _, ⟨_, .inr ⟨rfl, rfl⟩⟩, by simp [aretH, ares, noTup, Tryz.results156]⟩
noncomputable def allT (n : Nat) (L : List (Int × Int)) : List (List Nat) := growS n L L.length [] 0
noncomputable def itemsT (n : Nat) (L : List (Int × Int)) : List (List TVal) := (allT n L).map fun T => [tnats T]
theorem itemsT_len (n : Nat) (L : List (Int × Int)) : (itemsT n L).length = (allT n L).length := by simp [itemsT]
theorem itemsT_inv {n : Nat} {L : List (Int × Int)} {i : Nat} {ts : List TVal} (h : (itemsT n L)[i]? = some ts) : ∃ T, (allT n L)[i]? = some T ∧ ts = [tnats T] := by
 unfold itemsT at h
 rw [List.getElem?_map] at h
 cases hx : (allT n L)[i]? with
 | none => rw [hx] at h; cases h
 | some T => rw [hx] at h; simp at h; exact ⟨T, rfl, h.symm⟩
theorem itemsT_ps {n : Nat} {L : List (Int × Int)} {m : Nat} (hm : m = 1) (k : Nat) (ts : List TVal) (h : (itemsT n L)[k]? = some ts) : ts.length = m := by
 obtain ⟨p, _, rfl⟩ := itemsT_inv h; exact hm.symm
theorem growCaps_eq (n : Nat) (L : List (Int × Int)) : growCaps n L = [.tree (.rptr [.int .i64 (n : Int)]), .ptr 1 0, .tree (.rptr [.slice (pRows L)]), .ptr 2 0] := rfl
theorem trees1_ok (n : Nat) (h0 : 0 < n) (hn : n ≤ 12) (L : List (Int × Int)) (hL : InN n L) (hLl : L.length < 2 ^ 20) : AIter Tryz.prog 155 [.rptr [.int .i64 (n : Int)], .rptr [.slice (pRows L)]] (itemsT n L) := by
 have hg := tloose_ok
 have hr12 : (List.range 12).length = 12 := List.length_range
 have hz0 := TDe.zero n hn
 generalize hR : List.range 12 = R at *
 have hof : (fT R).map ofTree = fC R := fT_of R
 refine AIter.of_body Tryz.func155 rfl (by kernel_rfl) rfl (fun l J Jx hJ hJx hY => ?_)
 simp only [entry, Tryz.ntmps155, ofT, ofT1, ofTree, List.map_cons, List.map_nil, List.length_cons, List.length_nil, Nat.reduceAdd, Nat.reduceSub, List.replicate_succ, List.replicate_zero, List.cons_append, List.nil_append]
 repeat' ((fail_if_success (with_reducible refine AWp.atSeq 3 ?_));(fail_if_success (with_reducible refine AWp.atLast 3 ?_));first|((first|(refine zT ?_;intro K' hK')|(refine zG ?_ ?_<;>(try refine zH ?_)<;>intro hguard<;>(try exact zX)<;>try intro K' hK'))<;>((try simp +contextual only [go_sem]);(repeat' first|(with_reducible refine hK' _ _ ?_;clear hK' K')|exact zY|with_reducible refine And.intro ?_ ?_|(with_reducible intro hpath;try exact zP)|(refine hK' _ _ ?_;clear hK' K')|fail);try refine zS ?_))|(refine zE ?_;refine hK _ _ ?_;clear hK K)|(refine zN ?_;try refine zS ?_)|refine zA ?_|(refine zB ?_;intro K hK)|(refine zC ?_ ?_<;>(try refine zH ?_)<;>intro hcond<;>try exact zX)|fail)
 have hGH : GH l n L [.box [.yld l], .box [.fn 156 (growCaps n L)]] := by
  refine ⟨fun X => rfl, fun X => rfl, fun b hb => ?_, fun b hb => ?_, by simp⟩
  ·simp only [List.mem_cons, List.not_mem_nil, or_false] at hb
   rcases hb with rfl | rfl <;> exact trivial
  ·simp only [List.mem_cons, List.not_mem_nil, or_false] at hb
   rcases hb with rfl | rfl
   ·intro c hc
    rw [List.mem_singleton] at hc; subst hc; exact trivial
   ·intro c hc
    rw [List.mem_singleton] at hc; subst hc
    intro x hx
    simp only [growCaps, List.mem_cons, List.not_mem_nil, or_false] at hx
    rcases hx with rfl | rfl | rfl | rfl
    ·exact trivial
    ·exact (by decide : (1 : Nat) < 3)
    ·exact trivial
    ·exact (by decide : (2 : Nat) < 3)
 have hlo : ACallH Tryz.prog 153 [.ghost (J 0), .box [.yld l], .box [.fn 156 (growCaps n L)]] [] [.ghost (J 0), .box [.yld l], .box [.fn 156 (growCaps n L)]] (.agg (fC R)) := by
  have := ACall.h hg (H := [.ghost (J 0), .box [.yld l], .box [.fn 156 (growCaps n L)]]) (args := []) rfl
  rw [show ofT (tF R) = .agg (fC R) from by simp only [tF, ofT, hof]] at this
  exact this
 have hcall : ACallE Tryz.prog 156 [.ghost (J 0), .box [.yld l], .box [.fn 156 (growCaps n L)]] ([.c .nils, .c (.int .i64 0), .agg (fC R)] ++ (growCaps n L).map capVal)
   (fun H' r => ∃ X, H' = .ghost (J (itemsT n L).length) :: X ∨ H' = .ghost Jx :: X) := by
  by_cases h1 : n = 1
  ·have ha : allT n L = [[]] := growS_full (by simp [h1])
   have hi : itemsT n L = [[tnats []]] := by simp [itemsT, ha]
   refine (grow_point n h1 L l J Jx hJ hJx (hY 0 _ (by rw [hi]; rfl)) R hr12 _ hGH).mono ?_
   rintro H' r ⟨X, ⟨_, rfl⟩ | ⟨_, rfl⟩⟩
   ·rw [hi]; exact ⟨_, .inl rfl⟩
   ·exact ⟨_, .inr rfl⟩
  ·have hxs : ∀ i T, (growS n L L.length [] 0)[i]? = some T → (itemsT n L)[0 + i]? = some [tnats T] := fun i T h => by
    rw [Nat.zero_add]; unfold itemsT
    rw [List.getElem?_map]
    show ((allT n L)[i]?).map _ = _
    unfold allT
    rw [h]; rfl
   have hz1 : TDe n (pkN L []) R := hz0
   have := grow_ok n (by omega) hn L hL hLl l (itemsT n L) J Jx hJ hJx hY L.length [] 0 R 0 [.box [.yld l], .box [.fn 156 (growCaps n L)]] 0 0 (by omega) hz1 acyc_nil (fun x hx => by simp at hx) (by simp; omega) hxs hGH (.inl ⟨rfl, rfl⟩) (by simp) (by simp)
   refine (ACallE.nil0 1 this (by simp)).mono ?_
   rintro H' r (⟨_, rfl⟩ | ⟨_, rfl⟩)
   ·have e : 0 + (growS n L L.length [] 0).length = (itemsT n L).length := by rw [itemsT_len, Nat.zero_add]; rfl
    rw [e]
    exact ⟨_, .inl rfl⟩
   ·exact ⟨_, .inr rfl⟩
 refine AWp.of_adr (by kernel_rfl) ?_
 refine ADr.seg' 2 1 [(6, .c (.fn 156 (growCaps n L)))] (by kernel_rfl) (by kernel_rfl) rfl (.inl ⟨rfl, (step_call _ _ _ rfl 153 [] rfl _ hlo).n⟩) (zQ (growCaps_eq n L)) (by rintro r H' ⟨rfl, rfl⟩; exact zQ (growCaps_eq n L)) ?_
 rintro r H' ⟨rfl, rfl⟩
 simp only [setVals, aput, aeval, List.getD_cons_succ, List.getD_cons_zero, List.set_cons_succ, List.set_cons_zero]
 refine ADr.one' (by kernel_rfl) rfl (.inl ⟨rfl, step_callE rfl rfl hcall⟩) ?_
 rintro r H' ⟨X, hX⟩
 refine ADr.done (by decide) ?_
 exact ⟨trivial, X, hX⟩
theorem trees_ok (n : Int) (L : List (Int × Int)) : ACall Tryz.prog 128 [tint n, tpairs L] (.t (.fn 155 [.rptr [.int .i64 n], .rptr [.slice (pRows L)]])) := by
 refine ACall.of_body Tryz.func128 rfl (by kernel_rfl) ?_
 simp only [entry, Tryz.ntmps128, tint, tpairs]
 refine zU ?_
 refine zR trivial trivial trivial ?_
 simp [Rets, aret, Blk.cells, ty, Tryz.results128, ares, toT1, toT, borrow, borrow0, capCell, toTree0]
def tI (Ts : List (List Nat)) : List (List Int) := Ts.map fun T => T.map fun x : Nat => (x : Int)
theorem tI_len (Ts : List (List Nat)) : (tI Ts).length = Ts.length := by simp [tI]
theorem tI_snoc (Ts : List (List Nat)) (T : List Nat) : tI (Ts ++ [T]) = tI Ts ++ [T.map fun x : Nat => (x : Int)] := by simp [tI]
noncomputable def treesG (g : G) : List (List Nat) := allT g.n.toNat (endsL g.es)
theorem tAll_ok (g : G) (hl : g.es.length ≤ 40) (hT : (treesG g).length ≤ 16384) : ACall Tryz.prog 87 [tG g] (.tup [tlists (if joinedE g ≠ 0 then [] else tI (treesG g)), tint (joinedE g)]) := by
 have hgv := given_ok g hl
 by_cases hj : joinedE g = 0
 case neg =>
  rw [if_pos hj] at hgv ⊢
  generalize joinedE g = E at *
  obtain ⟨n, es⟩ := g
  refine ACall.of_body Tryz.func87 rfl (by kernel_rfl) ?_
  simp only [entry, Tryz.ntmps87, tG]
  refine zU ?_
  refine zR (zc @hj trivial) (zc hgv trivial) trivial ?_
  simp [Rets, aret, Blk.cells, ty, Tryz.results87, ares, toT1, toT, borrow, borrow0, capCell, toTree0, tint, tlists, llRows, tpairs]
 have hc : checkG g = 0 := by
  unfold joinedE at hj
  split at hj
  ·assumption
  ·rename_i h; simpa using h
 rw [if_neg (by simpa using hj), hj] at hgv
 rw [if_neg (by simpa using hj), hj]
 have h12 := (checkG_zero.1 hc).1
 obtain ⟨n, hn⟩ := Int.eq_ofNat_of_zero_le (show 0 ≤ g.n by omega)
 have hin : InN n (endsL g.es) := fun p hp => ends_in hc hn p hp
 have hll : (endsL g.es).length ≤ 2000 := by
  have := endsL_len (es := g.es) fun e he => by have := (checkG_zero.1 hc).2.1 e he; unfold okE at this; omega
  omega
 have ht1 := trees1_ok n (by omega) (by omega) (endsL g.es) hin (by omega)
 have ht := trees_ok (n : Int) (endsL g.es)
 have eT : treesG g = allT n (endsL g.es) := by unfold treesG; rw [show g.n.toNat = n by omega]
 rw [eT] at hT ⊢
 clear eT h12 hc hj hin
 obtain ⟨gn, es⟩ := g
 simp only at hn hll ht ht1 hT ⊢
 subst hn
 generalize endsL es = L at *
 have hiL := itemsT_len n L
 have hinv := fun (i : Nat) (ts : List TVal) (h : (itemsT n L)[i]? = some ts) => itemsT_inv h
 have hps := fun (k : Nat) (ts : List TVal) (h : (itemsT n L)[k]? = some ts) => itemsT_ps (m := 1) rfl k ts h
 generalize allT n L = Ts at *
 generalize itemsT n L = IT at *
 change ACall _ _ [tG ⟨((n : Nat) : Int), es⟩] _ at hgv
 show ACall _ _ [tG ⟨((n : Nat) : Int), es⟩] _
 refine ACall.of_body Tryz.func87 rfl (by kernel_rfl) ?_
 simp only [entry, Tryz.ntmps87, tG]
 refine zU ?_
 refine zR trivial (zc hgv (zc ht trivial)) trivial ?_
 refine AWp.weak (Weak.openB 3 0 1 rfl rfl (by omega)) ?_
 simp only [List.set_cons_succ, List.set_cons_zero, List.length_cons, List.length_nil, List.length_append, Nat.reduceAdd, List.cons_append, List.nil_append]
 refine AWp.weak (Weak.head (m := 5) (by omega) ((fun t f => [f, t, t, t, f, f, t, f, f, f, f, f, f, f, f, f, f, f, f, t, f, f, f, f, f, f, f, f, f]) true false) (by first | rfl | simp [mask]) (by first | rfl | simp) (by (repeat' (first | exact valsIn_nil _ | refine valsIn_cons ?_ ?_ | refine cellsIn_cons ?_ ?_ | exact cellsIn_nil _ | exact True.intro | (show _ < _; omega) | (intro c hc; cases hc; done) | (intro c hc; simp only [List.mem_cons, List.not_mem_nil, or_false] at hc; subst hc; exact True.intro) | (intro c hc; simp only [List.mem_cons, List.not_mem_nil, or_false] at hc; rcases hc with rfl | rfl <;> exact True.intro)))) (by (repeat' (first | exact valsIn_nil _ | exact blksIn_nil _ | exact cellsIn_nil _ | refine And.intro ?_ ?_ | refine valsIn_cons ?_ ?_ | refine blksIn_cons ?_ ?_ | refine cellsIn_cons ?_ ?_ | exact True.intro | exact fC_in | (show _ < _; omega) | exact cellsIn_map (fun _ => True.intro) | (intro c hc; cases hc; done) | (intro c hc; simp only [List.mem_cons, List.not_mem_nil, or_false] at hc; subst hc; exact True.intro) | (intro c hc; simp only [List.mem_cons, List.not_mem_nil, or_false] at hc; rcases hc with rfl | rfl <;> exact True.intro))))) (AWp.rangeFunc (fun k H => H = [.box [.int .i64 (n : Int), .slice (eRows es) .none], .box [.nils], .box [.int .i64 0], .box [.slice (llRows (tI (Ts.take k))) (.chain 4)], .chain (Ts.take k).length 1] ∧ (True)) (fun _ _ => False) 5 rfl (ht1) (hps) (by omega) (by (repeat' (first | exact valsIn_nil _ | refine valsIn_cons ?_ ?_ | refine cellsIn_cons ?_ ?_ | exact cellsIn_nil _ | exact True.intro | (show _ < _; omega) | (intro c hc; cases hc; done) | (intro c hc; simp only [List.mem_cons, List.not_mem_nil, or_false] at hc; subst hc; exact True.intro) | (intro c hc; simp only [List.mem_cons, List.not_mem_nil, or_false] at hc; rcases hc with rfl | rfl <;> exact True.intro)))) (by rintro _ _ ⟨rfl, -⟩; simp) (fun _ _ h => h.elim) ?_ (fun l k ts H hts hI => ?_) (fun H hI => ?_) (fun e H h => h.elim))
 ·exact ⟨rfl, trivial⟩
 ·obtain ⟨rfl, -⟩ := hI
  obtain ⟨T, hx, rfl⟩ := hinv _ _ hts
  have hk : k < Ts.length := (List.getElem?_eq_some_iff.1 hx).1
  have htl : (Ts.take k).length = k := by rw [List.length_take]; omega
  have hsn := take_snoc hx
  have hrs := llRows_snoc (tI (Ts.take k)) (T.map fun x : Nat => (x : Int))
  rw [← tI_snoc, ← hsn] at hrs
  have htl1 : (Ts.take (k + 1)).length = k + 1 := by rw [List.length_take]; omega
  have hne : ¬ ((k : Int) = 16384) := by omega
  simp only [mask, setPs, List.zip_cons_cons, List.zip_nil_right, List.zip_nil_left, List.foldl_cons, List.foldl_nil, List.set_cons_succ, List.set_cons_zero, ofT, ofT1, ofTree, List.map_cons, List.map_nil, ofT, ofT1, toT, toT1, toTree0, tint, tbool, tpair, tG, tpairs, tints, tnats]
  refine zRc (zc @llRows_len (zc @tI_len (zc @htl (zc @hrs (zc @hne trivial))))) trivial @llRows_k' ?_
  refine ⟨⟨_, _⟩, Weak.head2 (m := 5) (by decide) ((fun t f => [f, f, f, f, f, f, f, f, f, f, f, f, f, f, f, f, f, f, f, f, f, f, f, f, f, f, f, f, f]) true false) rfl rfl (zV @fC_in), ?_, ?_⟩
  ·simp [htl1]
  ·trivial
 ·obtain ⟨rfl, -⟩ := hI
  rw [hiL, List.take_length]
  simp only [mask]
  refine zR trivial trivial trivial ?_
  simp [Rets, aret, Blk.cells, ty, Tryz.results87, ares, toT1, toT, borrow, borrow0, capCell, toTree0, tint, tlists]
theorem tCount_ok (g : G) (hl : g.es.length ≤ 40) (hT : (treesG g).length ≤ 16384) : ACall Tryz.prog 44 [tG g] (.tup [tint (if joinedE g ≠ 0 then 0 else (treesG g).length), tint (joinedE g)]) := by
 have hA := tAll_ok g hl hT
 have hl1 := tI_len (treesG g)
 generalize joinedE g = E at *
 generalize tI (treesG g) = TT at *
 generalize (treesG g).length = m at *
 clear hl
 obtain ⟨n, es⟩ := g
 refine ACall.of_body Tryz.func44 rfl (by kernel_rfl) ?_
 simp only [entry, Tryz.ntmps44, tG]
 refine zU ?_
 by_cases hE : E = 0
 ·rw [if_neg (by simpa using hE)] at hA ⊢
  refine zR (zc @llRows_len (zc @hl1 trivial)) (zc hA trivial) trivial ?_
  simp [Rets, aret, Blk.cells, ty, Tryz.results44, ares, toT1, toT, borrow, borrow0, capCell, toTree0, tint]
 ·rw [if_pos hE] at hA ⊢
  refine zR (zc @llRows_len trivial) (zc hA trivial) trivial ?_
  simp [Rets, aret, Blk.cells, ty, Tryz.results44, ares, toT1, toT, borrow, borrow0, capCell, toTree0, tint]
def nrmP (p : Int × Int) : Int × Int := (min p.1 p.2, max p.1 p.2)
def lexP (p q : Int × Int) : Prop := p.1 < q.1 ∨ (p.1 = q.1 ∧ p.2 ≤ q.2)
theorem ends_sorted {es : List E} (hs : es.Pairwise ltE) : (endsL es).Pairwise lexP := by
 induction es with
 | nil => exact List.Pairwise.nil
 | cons x xs ih =>
  have hp := List.pairwise_cons.1 hs
  have e : endsL (x :: xs) = endsL [x] ++ endsL xs := by rw [← endsL_append]; rfl
  rw [e, endsL_one, List.pairwise_append]
  refine ⟨?_, ih hp.2, fun a ha b hb => ?_⟩
  ·rw [List.pairwise_replicate]
   exact .inr (.inr ⟨rfl, Int.le_refl _⟩)
  ·obtain ⟨-, rfl⟩ := List.mem_replicate.1 ha
   obtain ⟨y, hy, rfl⟩ := endsL_mem hb
   have := hp.1 y hy
   unfold ltE at this
   unfold lexP
   simp only
   omega
theorem perm_of_count {l m : List (Int × Int)} (hl : ∀ p, p ∈ l → p.1 ≤ p.2) (hm : ∀ p, p ∈ m → p.1 ≤ p.2) (h : ∀ a b, l.countP (isP a b) = m.countP (isP a b)) : l.Perm m := by
 rw [List.perm_iff_count]
 intro p
 have key : ∀ k : List (Int × Int), (∀ q, q ∈ k → q.1 ≤ q.2) → k.count p = if p.1 ≤ p.2 then k.countP (isP p.1 p.2) else 0 := fun k hk => by
  by_cases hp : p.1 ≤ p.2
  ·rw [if_pos hp, List.count]
   refine List.countP_congr fun q hq => ?_
   have := hk q hq
   obtain ⟨a, b⟩ := p
   obtain ⟨c, d⟩ := q
   unfold isP
   simp only at this hp ⊢
   rw [beq_iff_eq, Prod.mk.injEq, decide_eq_true_eq]
   omega
  ·rw [if_neg hp, List.count_eq_zero]
   exact fun hq => hp (hk p hq)
 rw [key l hl, key m hm, h]
theorem lexP_anti {p q : Int × Int} (h1 : lexP p q) (h2 : lexP q p) : p = q := by
 obtain ⟨a, b⟩ := p
 obtain ⟨c, d⟩ := q
 unfold lexP at h1 h2
 simp only at h1 h2
 rw [Prod.mk.injEq]; omega
theorem made_ends {n : Int} {J : List (Int × Int)} {zs : List Nat} (hJ : ∀ p, p ∈ J → okP n p) (hz : NOrd J zs) :
  endsL (sortE (bagL J)) = zs.map fun e => nrmP (J.getD e (0, 0)) := by
 have hb := bag_ok hJ J.length (Nat.le_refl _)
 rw [List.take_length] at hb
 have hsort := sortE_sorted hb.d
 have hcnt : ∀ a b, cntL (bagL J) a b = (J.countP (isP a b) : Int) := fun a b => by
  have e := cntL_bag J a b J.length (Nat.le_refl _)
  rwa [List.take_length] at e
 have hr : ∀ e, e ∈ sortE (bagL J) → e.a ≤ e.b ∧ 1 ≤ e.m := fun e he => by
  have he' := (sortE_perm (bagL J)).mem_iff.1 he
  have h1 := hb.m e he'
  have h2 := hb.r e he'
  omega
 have hd2 : ∀ a b, cntL (sortE (bagL J)) a b = cntL (bagL J) a b := fun a b => by
  have hds := distinct_of hsort
  by_cases h0 : cntL (bagL J) a b = 0
  ·rw [h0]
   by_cases h1 : cntL (sortE (bagL J)) a b = 0
   ·exact h1
   ·have hm := (sortE_perm (bagL J)).mem_iff.1 (mem_of_cntL h1)
    have := cntL_of_mem hb.d hm
    simp only at this
    omega
  ·have hm := (sortE_perm (bagL J)).mem_iff.2 (mem_of_cntL h0)
   exact cntL_of_mem hds hm
 refine List.Perm.eq_of_pairwise (le := lexP) (fun a b _ _ h1 h2 => lexP_anti h1 h2) (ends_sorted hsort) ?_ (perm_of_count ?_ ?_ fun a b => ?_)
 ·rw [List.pairwise_map]
  refine hz.s.imp fun {a b} h => ?_
  unfold ltN mnL mxL at h
  unfold lexP nrmP
  simp only
  omega
 ·intro p hp
  obtain ⟨e, he, rfl⟩ := endsL_mem hp
  exact (hr e he).1
 ·intro p hp
  obtain ⟨e, _, rfl⟩ := List.mem_map.1 hp
  unfold nrmP
  simp only; omega
 ·have h1 := cnt_ends hsort hr a b
  rw [hd2, hcnt] at h1
  have h2 : (zs.map fun e => nrmP (J.getD e (0, 0))).countP (isP a b) = J.countP (isP a b) := by
   rw [List.countP_map]
   have e1 : (isP a b ∘ fun e => nrmP (J.getD e (0, 0))) = fun e => isP a b (J.getD e (0, 0)) := by
    funext e
    show isP a b (nrmP _) = _
    unfold isP nrmP
    simp only
    rw [decide_eq_decide]
    omega
   rw [e1, hz.p.countP_eq]
   have e2 : J = (List.range J.length).map fun e => J.getD e (0, 0) := by
    apply List.ext_getElem?
    intro i
    rw [List.getElem?_map]
    by_cases hi : i < J.length
    ·rw [List.getElem?_range hi, Option.map_some, List.getD_eq_getElem?_getD, List.getElem?_eq_getElem hi]; rfl
    ·rw [List.getElem?_eq_none (by omega), List.getElem?_eq_none (by simp; omega)]; rfl
   conv => rhs; rw [e2]
   rw [List.countP_map]; rfl
  omega
theorem nord_ex (J : List (Int × Int)) : ∃ zs, NOrd J zs := by
 by_cases h0 : 0 < J.length
 ·obtain ⟨zs, h, _⟩ := sortN_ord J h0
  exact ⟨zs, h⟩
 ·have e : J.length = 0 := by omega
  exact ⟨[], ⟨by rw [e]; exact List.Perm.refl _, List.Pairwise.nil⟩⟩
theorem Triangle_ok : ACall Tryz.prog 47 [] (tG triG) := by
 refine ACall.of_body Tryz.func47 rfl (by kernel_rfl) ?_
 simp only [entry, Tryz.ntmps47]
 refine zU ?_
 refine zRc trivial trivial trivial ?_
 simp [Rets, aret, Blk.cells, ty, Tryz.results47, ares, toT1, toT, borrow, borrow0, capCell, toTree0, tG, eRows, eRow, triG]
theorem Loops_ok (l : List Int) : ACall Tryz.prog 48 [tints l] (tR (loopR l)) := by
 refine ACall.of_body Tryz.func48 rfl (by kernel_rfl) ?_
 simp only [entry, Tryz.ntmps48, tints]
 refine zU ?_
 refine zRc trivial trivial trivial ?_
 simp [Rets, aret, Blk.cells, ty, Tryz.results48, ares, toT1, toT, borrow, borrow0, capCell, toTree0, tR, eRows, eRow, llRows, loopR]
theorem awake44_ok : ACall Tryz.prog 12 [] (tbool true) := by
 have hT := Triangle_ok
 have hD0 := rDefault_ok triG (by decide)
 rw [if_neg (by rw [tri_joined]; decide), tri_joined, tri_halves] at hD0
 have hD : ACall Tryz.prog 28 [tG triG] (.tup [tR triR, tint 0]) := hD0
 have hF := rFaces_ok triR rsm_tri
 rw [if_neg (by rw [tri_rib]; decide), tri_rib, tri_faces] at hF
 have hU := rDual_ok triR rsm_tri
 rw [tri_dualD, tri_dualN, tri_dualE] at hU
 have s1 := SameLists_ok [[0, 2], [1, 4], [3, 5]] [[0, 2], [1, 4], [3, 5]] (by decide) (by decide) (by decide) (by decide)
 have s2 := SameLists_ok [[0, 4, 3], [1, 2, 5]] [[0, 4, 3], [1, 2, 5]] (by decide) (by decide) (by decide) (by decide)
 have s3 := SameRR_ok ⟨2, [⟨0, 1, 3⟩], [[0, 4, 2], [1, 3, 5]]⟩ ⟨2, [⟨0, 1, 3⟩], [[0, 4, 2], [1, 3, 5]]⟩ ⟨by decide, by decide, by decide⟩ ⟨by decide, by decide, by decide⟩
 rw [(sameR_iff _ _).2 rfl] at s3
 have s4 := Equal_ok [0, 1, 2] [0, 1, 2] (by decide) (by decide)
 have l1 := Loops_ok [0, 1, 2, 3]
 have l2 := Loops_ok [0, 2, 1, 3]
 have f1 := rFaces_ok (loopR [0, 1, 2, 3]) (rsm_loop _ (by decide))
 rw [if_neg (by rw [loopA_rib]; decide), loopA_rib, loopA_faces] at f1
 have f2 := rFaces_ok (loopR [0, 2, 1, 3]) (rsm_loop _ (by decide))
 rw [if_neg (by rw [loopB_rib]; decide), loopB_rib, loopB_faces] at f2
 have g1 := rGenus_ok (loopR [0, 1, 2, 3]) (rsm_loop _ (by decide))
 rw [if_neg (by rw [loopA_rib]; decide), loopA_rib, loopA_genus] at g1
 have g2 := rGenus_ok (loopR [0, 2, 1, 3]) (rsm_loop _ (by decide))
 rw [if_neg (by rw [loopB_rib]; decide), loopB_rib, loopB_genus] at g2
 have s5 := SameLists_ok [[0, 2], [1], [3]] [[0, 2], [1], [3]] (by decide) (by decide) (by decide) (by decide)
 have s6 := SameLists_ok [[0, 3, 1, 2]] [[0, 3, 1, 2]] (by decide) (by decide) (by decide) (by decide)
 rw [decide_eq_true rfl] at s1 s2 s4 s5 s6
 unfold tR triR at hD hF hU
 unfold tR at s3
 unfold tR loopR at l1 l2 f1 f2 g1 g2
 unfold tlists at hF s1 s2 s5 s6 f1 f2
 simp only at hD hF hU s3 l1 l2 f1 f2 g1 g2
 refine ACall.of_body Tryz.func12 rfl (by kernel_rfl) ?_
 simp only [entry, Tryz.ntmps12]
 refine zU ?_
 repeat' (first|((first|(refine zT ?_;intro K' hK')|(refine zG ?_ ?_<;>(try refine zH ?_)<;>intro hguard<;>(try exact zX)<;>try intro K' hK'))<;>((try simp +contextual only [go_sem, chunks, List.range, List.range.loop]);(repeat' first|(with_reducible refine hK' _ _ ?_;clear hK' K')|((with_reducible first|refine zK hT ?_|refine zK hD ?_|refine zK hF ?_|refine zK hU ?_|refine zK s1 ?_|refine zK s2 ?_|refine zK s3 ?_|refine zK s4 ?_|refine zK l1 ?_|refine zK l2 ?_|refine zK f1 ?_|refine zK f2 ?_|refine zK g1 ?_|refine zK g2 ?_|refine zK s5 ?_|refine zK s6 ?_);try simp +contextual only [go_sem, chunks, List.range, List.range.loop])|exact zY|with_reducible refine And.intro ?_ ?_|(with_reducible intro hpath;try exact zP)|(refine hK' _ _ ?_;clear hK' K')|fail);try refine zS ?_))|(refine zE ?_;refine hK _ _ ?_;clear hK K)|(refine zN ?_;try refine zS ?_)|refine zA ?_|(refine zB ?_;intro K hK)|(refine zC ?_ ?_<;>(try refine zH ?_)<;>intro hcond<;>try exact zX)|fail)
 simp [Rets, aret, Blk.cells, ty, Tryz.results12, ares, toT1, toT, borrow, borrow0, capCell, toTree0, tbool]
end Go.Proofs.YtfkegnhpihoncaaGreat
