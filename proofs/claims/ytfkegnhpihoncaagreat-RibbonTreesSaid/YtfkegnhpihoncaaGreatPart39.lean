/- A part of the proof. -/
import Derived.Test.YtfkegnhpihoncaaGreatPart38
import Derived.Test.YtfkegnhpihoncaaGreatLayerC
set_option linter.all false
set_option maxHeartbeats 4000000
set_option maxRecDepth 100000
namespace Go.Proofs.YtfkegnhpihoncaaGreat
open Go.Sp
theorem grow_ok (n : Nat) (hn2 : 2 ≤ n) (hn : n ≤ 12) (L : List (Int × Int)) (hL : InN n L) (hLl : L.length < 2 ^ 20) (l : Nat) (xs : List (List TVal)) (J : Nat → Sig → World → Prop) (Jx : Sig → World → Prop) (hJ : ∀ k, Clo (J k)) (hJx : Clo Jx)
  (hY : ∀ k ts, xs[k]? = some ts → YStep Tryz.prog l (J k) ts (J (k + 1)) Jx) :
  ∀ (fuel : Nat) (t : List Nat) (e : Nat) (F : List Nat) (k0 : Nat) (H1 : List Blk) (j cap : Nat), e + fuel = L.length → TDe n (pkN L t) F → acyc (pkN L t) → (∀ x, x ∈ t → x < L.length) → t.length + 1 ≤ n →
   (∀ i T, (growS n L fuel t e)[i]? = some T → xs[k0 + i]? = some [tnats T]) → GH l n L H1 → GV t j cap H1 → j < H1.length → t.length ≤ cap →
   ACallE Tryz.prog 156 (.ghost (J k0) :: H1) ([.c (.vec (j + 1) t.length cap), .c (.int .i64 (e : Int)), .agg (fC F)] ++ (growCaps n L).map capVal)
    (fun H' r => (r = .c (.bool true) ∧ H' = .ghost (J (k0 + (growS n L fuel t e).length)) :: H1) ∨ (r = .c (.bool false) ∧ H' = .ghost Jx :: H1)) := by
 intro fuel
 induction fuel using Nat.strongRecOn with
 | ind fuel ih =>
 intro t e F k0 H1 j cap hef hF hac htL htn hxs hG hV hj hcap
 have hfl : F.length = 12 := by obtain ⟨_, _, h⟩ := hF; exact h.tc.tf.len
 have htk : ∀ (G : Blk) (X : List Blk), (G :: (H1 ++ X)).take (H1.length + 1) = G :: H1 := fun G X => by simp
 refine (ACallE.trim (H1.length + 1) (R := GR J Jx (k0 + (growS n L fuel t e).length) H1) ?_ (by simp) ?_).mono ?_
 rotate_left
 ·rintro H2 r ⟨X, ⟨rfl, rfl⟩ | ⟨rfl, rfl⟩⟩ <;>
  ·refine ⟨?_, trivial⟩
   rw [htk]
   intro b hb
   rcases List.mem_cons.1 hb with rfl | hb
   ·trivial
   ·exact hG.inn b hb
 ·rintro H' r ⟨H2, ⟨X, ⟨rfl, rfl⟩ | ⟨rfl, rfl⟩⟩, rfl⟩
  ·rw [htk]; exact .inl ⟨rfl, rfl⟩
  ·rw [htk]; exact .inr ⟨rfl, rfl⟩
 refine ACallE.of_body Tryz.func156 rfl (by kernel_rfl) ?_
 simp only [entry, growCaps, capVal, ofTree, List.map_cons, List.map_nil, Tryz.ntmps156, List.length_cons, List.length_nil, Nat.reduceAdd, Nat.reduceSub, List.replicate_succ, List.replicate_zero, List.cons_append, List.nil_append]
 by_cases hfull : t.length + 1 = n
 ·have hI : (t.length : Int) = (n : Int) - 1 := by omega
  have hne : t ≠ [] := fun h => by rw [h] at hfull; simp at hfull; omega
  have hpos : 0 < t.length := List.length_pos_iff.2 hne
  obtain ⟨h2j, hVj⟩ := hV.resolve_left fun h => hne h.2
  have hGe := (growS_full (L := L) (fuel := fuel) (e := e) hfull)
  rw [hGe] at hxs ⊢
  have hx0 := hxs 0 t rfl
  rw [Nat.add_zero] at hx0
  have hCl := CloneT_ok (t.map fun x : Nat => (x : Int)) (by simpa using hne) (by rw [List.length_map]; omega)
  have hbor : borrow0 (.ghost (J k0) :: (H1 ++ [.box (fC F)])) (.ref (j + 1) 1 0 t.length t.length) = some (.slice (iRows (t.map fun x : Nat => (x : Int)))) :=
   see_vec (by rw [List.getElem?_cons_succ, List.getElem?_append_left hj]; exact hVj)
  have hC : ACallH Tryz.prog 64 (.ghost (J k0) :: (H1 ++ [.box (fC F)])) [.c (.ref (j + 1) 1 0 t.length t.length)] (.ghost (J k0) :: (H1 ++ [.box (fC F)])) (ofT (tnats t)) :=
   ACallX.h0 (ts := [tnats t]) hCl (by simp only [List.mapM_cons, List.mapM_nil, toT, borrow, hbor, Option.map_some]; rfl)
  have hy := hG.yld [.box (fC F)]
  repeat' ((fail_if_success (with_reducible refine AWp.atSeq 2 ?_));(fail_if_success (with_reducible refine AWp.atLast 2 ?_));first|((first|(refine zT ?_;intro K' hK')|(refine zG ?_ ?_<;>(try refine zH ?_)<;>intro hguard<;>(try exact zX)<;>try intro K' hK'))<;>((try simp +contextual only [go_sem, hI, fC_len, hfl]);(repeat' first|(with_reducible refine hK' _ _ ?_;clear hK' K')|exact zY|with_reducible refine And.intro ?_ ?_|(with_reducible intro hpath;try exact zP)|(refine hK' _ _ ?_;clear hK' K')|fail);try refine zS ?_))|(refine zE ?_;refine hK _ _ ?_;clear hK K)|(refine zN ?_;try refine zS ?_)|refine zA ?_|(refine zB ?_;intro K hK)|(refine zC ?_ ?_<;>(try refine zH ?_)<;>intro hcond<;>try exact zX)|fail)
  refine AWp.weak (Weak.vecSee 0 (j + 1) t.length cap rfl hpos hcap) ?_
  simp only [List.set_cons_zero]
  refine AWp.seq (AWp.of_adr (by kernel_rfl) ?_)
  refine ADr.seg' 3 2 [(18, .c (.yld l)), (19, .c (.ref (j + 1) 1 0 t.length t.length))] (by kernel_rfl) (by kernel_rfl) rfl (.inl ⟨rfl, (step_call _ _ _ rfl 64 [] rfl _ hC).n⟩) (zQ hy) (by rintro r H' ⟨rfl, rfl⟩; exact zQ hy) ?_
  rintro r H' ⟨rfl, rfl⟩
  simp only [setVals, aput, aeval, List.getD_cons_succ, List.getD_cons_zero, List.set_cons_succ, List.set_cons_zero]
  refine ADr.one' (by kernel_rfl) rfl (.inl ⟨rfl, step_yield (ts := [tnats t]) rfl rfl rfl (okF hG.ok hfl) (hY k0 _ hx0) (hJ _) hJx⟩) ?_
  rintro r H' (⟨rfl, rfl⟩ | ⟨rfl, rfl⟩)
  ·
   simp only [setVals, aput, aeval, List.getD_cons_succ, List.getD_cons_zero, List.set_cons_succ, List.set_cons_zero]
   refine ADr.run 1 (by kernel_rfl) (by decide) (fun K hK => ?_)
   simp only [Nat.reduceAdd, List.drop_succ_cons, List.drop_zero, List.take_succ_cons, List.take_zero]
   repeat' (first|((first|(refine zT ?_;intro K' hK')|(refine zG ?_ ?_<;>(try refine zH ?_)<;>intro hguard<;>(try exact zX)<;>try intro K' hK'))<;>((try simp +contextual only [go_sem]);(repeat' first|(with_reducible refine hK' _ _ ?_;clear hK' K')|exact zY|with_reducible refine And.intro ?_ ?_|(with_reducible intro hpath;try exact zP)|(refine hK' _ _ ?_;clear hK' K')|fail);try refine zS ?_))|(refine zE ?_;refine hK _ _ ?_;clear hK K)|(refine zN ?_;try refine zS ?_)|fail)
   try simp only [Nat.reduceAdd]
   refine ADr.done (by decide) ?_
   refine zR trivial trivial trivial ?_
   exact ⟨trivial, _, ⟨_, .inl ⟨rfl, rfl⟩⟩, by simp [aretH, ares, noTup, Tryz.results156]⟩
  ·
   simp only [setVals, aput, aeval, List.getD_cons_succ, List.getD_cons_zero, List.set_cons_succ, List.set_cons_zero]
   refine ADr.run 1 (by kernel_rfl) (by decide) (fun K hK => ?_)
   simp only [Nat.reduceAdd, List.drop_succ_cons, List.drop_zero, List.take_succ_cons, List.take_zero]
   repeat' (first|((first|(refine zT ?_;intro K' hK')|(refine zG ?_ ?_<;>(try refine zH ?_)<;>intro hguard<;>(try exact zX)<;>try intro K' hK'))<;>((try simp +contextual only [go_sem]);(repeat' first|(with_reducible refine hK' _ _ ?_;clear hK' K')|exact zY|with_reducible refine And.intro ?_ ?_|(with_reducible intro hpath;try exact zP)|(refine hK' _ _ ?_;clear hK' K')|fail);try refine zS ?_))|(refine zE ?_;refine hK _ _ ?_;clear hK K)|(refine zN ?_;try refine zS ?_)|fail)
   try simp only [Nat.reduceAdd]
   refine ADr.done (by decide) ?_
   refine zR trivial trivial trivial ?_
   exact ⟨trivial, _, ⟨_, .inr ⟨rfl, rfl⟩⟩, by simp [aretH, ares, noTup, Tryz.results156]⟩
 ·have hI : ¬ ((t.length : Int) = (n : Int) - 1) := by omega
  repeat' ((fail_if_success (with_reducible refine AWp.atSeq 2 ?_));(fail_if_success (with_reducible refine AWp.atLast 2 ?_));first|((first|(refine zT ?_;intro K' hK')|(refine zG ?_ ?_<;>(try refine zH ?_)<;>intro hguard<;>(try exact zX)<;>try intro K' hK'))<;>((try simp +contextual only [go_sem, hI, fC_len, hfl]);(repeat' first|(with_reducible refine hK' _ _ ?_;clear hK' K')|exact zY|with_reducible refine And.intro ?_ ?_|(with_reducible intro hpath;try exact zP)|(refine hK' _ _ ?_;clear hK' K')|fail);try refine zS ?_))|(refine zE ?_;refine hK _ _ ?_;clear hK K)|(refine zN ?_;try refine zS ?_)|refine zA ?_|(refine zB ?_;intro K hK)|(refine zC ?_ ?_<;>(try refine zH ?_)<;>intro hcond<;>try exact zX)|fail)
  have hL0 : L.length - e = fuel := by omega
  have htk12 : (fC F).take 12 = fC F := List.take_of_length_le (by rw [fC_len, hfl]; exact Nat.le_refl _)
  refine AWp.loopS (α:=(Nat × Nat)) 55 (fun s=>[(0,.c (.vec (j + 1) t.length cap)),(3,.c (.rptr [.int .i64 (n : Int)])),(5,.c (.rptr [.slice (pRows L)])),(6,.c (.ptr 2 0)),(9,.c (.ptr (H1.length + 1) 0)),(10,.c (.bool false)),(11,.c (.int .i64 (s.1 : Int)))]) (fun s=>.ghost (J s.2) :: (H1 ++ [.box (fC F)])) (fun s=>e ≤ s.1 ∧ s.1 ≤ L.length ∧ s.2 + (growS n L (L.length - s.1) t s.1).length = k0 + (growS n L fuel t e).length ∧ (∀ i T, (growS n L (L.length - s.1) t s.1)[i]? = some T → xs[s.2 + i]? = some [tnats T])) (fun s=>L.length - s.1) ((e, k0)) (hk:=Weak.headL (H1.length + 2) 55 [0, 3, 5, 6, 9, 10, 11] (by (repeat' (first | exact valsIn_nil _ | exact blksIn_nil _ | exact cellsIn_nil _ | refine And.intro ?_ ?_ | refine valsIn_cons ?_ ?_ | refine blksIn_cons ?_ ?_ | refine cellsIn_cons ?_ ?_ | exact True.intro | exact inF (by assumption) _ | exact fC_in | (show _ < _; omega) | exact cellsIn_map (fun _ => True.intro) | (intro c hc; cases hc; done) | (intro c hc; simp only [List.mem_cons, List.not_mem_nil, or_false] at hc; subst hc; exact True.intro) | (intro c hc; simp only [List.mem_cons, List.not_mem_nil, or_false] at hc; rcases hc with rfl | rfl <;> exact True.intro))))) (h0:=?_) (round:=fun s hI=>?_)
  ·exact ⟨Nat.le_refl _, by omega, by rw [hL0], by rw [hL0]; exact hxs⟩
  ·obtain ⟨a, k⟩ := s
   obtain ⟨ha1, ha2, hcnt, hxa⟩ := hI
   simp only at ha1 ha2 hcnt hxa ⊢
   by_cases hlt : a < L.length
   ·have hltI : (a : Int) < L.length := by omega
    have hcn := connects_ok n hn (pkN L t) (L.drop a) F hF (pkN_in hL htL) (fun p hp => hL p (List.mem_of_mem_drop hp)) (by rw [List.length_drop]; omega)
    have hdr : (pRows L).drop a = pRows (L.drop a) := by simp [pRows]
    have eA : ∀ X : List Blk, (H1 ++ X)[H1.length]? = X[0]? := fun X => by rw [List.getElem?_append_right (Nat.le_refl _), Nat.sub_self]
    have eB : ∀ X : List Blk, (H1 ++ X)[H1.length + 1]? = X[1]? := fun X => by rw [List.getElem?_append_right (by omega)]; congr 1; omega
    have htp : (pRows L).take L.length = pRows L := List.take_of_length_le (by rw [pRows_len]; exact Nat.le_refl _)
    have hcH : ∀ (H : List Blk) tok, ACallH Tryz.prog 157 H [.c (.int .i64 (n : Int)), .agg (fC F), .c (.slice (pRows (L.drop a)) tok)] H (.c (.bool (decide (ncls n (Conn (pkN L t ++ L.drop a)) = 1)))) := fun H tok =>
     ACall.h hcn (by simp [toT, mapM_fT, toTree0, tint, tF, tpairs])
    clear hcn
    have e0 := List.getElem?_eq_getElem hlt
    have e1 := pRows_get e0
    have hrng := hL _ (List.getElem_mem hlt)
    have hpk : pkN L (t ++ [a]) = pkN L t ++ [L[a]] := by
     rw [pkN_app]; simp [pkN, List.getD_eq_getElem?_getD, e0]
    generalize L[a] = p at *
    obtain ⟨pa, pb⟩ := p
    obtain ⟨a0, rfl⟩ := Int.eq_ofNat_of_zero_le hrng.1.1
    obtain ⟨b0, rfl⟩ := Int.eq_ofNat_of_zero_le hrng.2.1
    have ha0 : a0 < n := by have := hrng.1.2; simp only at this; omega
    have hb0 : b0 < n := by have := hrng.2.2; simp only at this; omega
    change (pRows L)[a]? = some [.int .i64 (a0 : Int), .int .i64 (b0 : Int)] at e1
    change pkN L (t ++ [a]) = pkN L t ++ [((a0 : Int), (b0 : Int))] at hpk
    have hF' := hF
    obtain ⟨rt, dp, td⟩ := hF'
    have tn := td.snoc hn (pkN_in hL htL) ha0 hb0
    rw [← hpk] at tn
    have hjc := td.tc.conn a0 b0 (by omega) (by omega)
    have hJ := tjoin_ok td.tc.tf a0 b0 (by omega) (by omega) (H := .ghost (J k) :: (H1 ++ [.box (fC F), .box (fC F)])) (id := H1.length + 1 + 1) (by rw [List.getElem?_cons_succ]; exact eB _)
    have hgs := growS_step hlt hfull
    have htk2 : (fC (F.set (rt a0) (rt b0))).take 12 = fC (F.set (rt a0) (rt b0)) := List.take_of_length_le (by rw [fC_len, List.length_set, hfl]; exact Nat.le_refl _)
    have sA : ∀ (X : List Blk) (B : Blk), (H1 ++ X).set H1.length B = H1 ++ X.set 0 B := fun X B => by rw [List.set_append_right _ _ (Nat.le_refl _), Nat.sub_self]
    have sB : ∀ (X : List Blk) (B : Blk), (H1 ++ X).set (H1.length + 1) B = H1 ++ X.set 1 B := fun X B => by rw [List.set_append_right _ _ (by omega), show H1.length + 1 - H1.length = 1 by omega]
    have hst := fC_store zero12 F (by rw [hfl]; rfl)
    have hz : fC zero12 = [.int .i64 0, .int .i64 0, .int .i64 0, .int .i64 0, .int .i64 0, .int .i64 0, .int .i64 0, .int .i64 0, .int .i64 0, .int .i64 0, .int .i64 0, .int .i64 0] := rfl
    rw [hz] at hst
    clear hz
    have hJh : (.ghost (J k) :: (H1 ++ [.box (fC F), .box (fC F)]) : List Blk).set (H1.length + 1 + 1) (.box (fC (F.set (rt a0) (rt b0)))) ++ [.box [.int .i64 (a0 : Int), .int .i64 (b0 : Int)]] = .ghost (J k) :: (H1 ++ [.box (fC F), .box (fC (F.set (rt a0) (rt b0))), .box [.int .i64 (a0 : Int), .int .i64 (b0 : Int)]]) := by
     rw [List.set_cons_succ, sB]; simp
    rw [hJh] at hJ
    clear hJh
    by_cases hc1 : ncls n (Conn (pkN L t ++ L.drop a)) = 1
    ·rw [decide_eq_true hc1] at hcH
     refine AWp.seqMid (.c (.vec (j + 1) t.length cap) :: .c .any :: .c .any :: .c (.rptr [.int .i64 (n : Int)]) :: .c .any :: .c (.rptr [.slice (pRows L)]) :: .c (.ptr 2 0) :: .c .any :: .c .any :: .c (.ptr (H1.length + 1) 0) :: .c (.bool false) :: .c (.int .i64 (a : Int)) :: .c .any :: .c .any :: .c .any :: .c .any :: .c .any :: .c .any :: .c .any :: .c .any :: .c .any :: .c .any :: .c .any :: .c .any :: .c .any :: .c .any :: .c .any :: .c .any :: .c .any :: .c .any :: .c .any :: .c .any :: .c .any :: .c .any :: .c .any :: .c .any :: .c .any :: .c .any :: .c .any :: .c .any :: .c .any :: .c .any :: .c .any :: .c .any :: .c .any :: .c .any :: .c .any :: .c .any :: .c .any :: .c .any :: .c .any :: .c .any :: .c .any :: .c .any :: .c .any :: []) (.ghost (J k) :: (H1 ++ [.box (fC F)])) ?_ ?_
     ·
      repeat' ((fail_if_success (with_reducible refine AWp.atSeq 7 ?_));(fail_if_success (with_reducible refine AWp.atLast 7 ?_));first|((first|(refine zT ?_;intro K' hK')|(refine zG ?_ ?_<;>(try refine zH ?_)<;>intro hguard<;>(try exact zX)<;>try intro K' hK'))<;>((try simp +contextual only [go_sem, hltI, pRows_len, hdr, htp, eA, eB, fC_len, hfl, htk12, Int.toNat_natCast]);(repeat' first|(with_reducible refine hK' _ _ ?_;clear hK' K')|((with_reducible first|refine ⟨_,_,(hcH _ _),?_⟩|refine ⟨_,(hcH _ _),?_⟩);try simp +contextual only [go_sem, hltI, pRows_len, hdr, htp, eA, eB, fC_len, hfl, htk12, Int.toNat_natCast])|(with_reducible exact pRows_k' (by assumption))|exact zY|with_reducible refine And.intro ?_ ?_|(with_reducible intro hpath;try exact zP)|(refine hK' _ _ ?_;clear hK' K')|fail);try refine zS ?_))|(refine zE ?_;refine hK _ _ ?_;clear hK K)|(refine zN ?_;try refine zS ?_)|refine zA ?_|(refine zB ?_;intro K hK)|(refine zC ?_ ?_<;>(try refine zH ?_)<;>intro hcond<;>try exact zX)|fail)
      all_goals
       exact Weak.headN (H1.length + 2) 55 [0, 3, 5, 6, 9, 10, 11] (by (repeat' (first | exact valsIn_nil _ | exact blksIn_nil _ | exact cellsIn_nil _ | refine And.intro ?_ ?_ | refine valsIn_cons ?_ ?_ | refine blksIn_cons ?_ ?_ | refine cellsIn_cons ?_ ?_ | exact True.intro | exact inF (by assumption) _ | exact fC_in | (show _ < _; omega) | exact cellsIn_map (fun _ => True.intro) | (intro c hc; cases hc; done) | (intro c hc; simp only [List.mem_cons, List.not_mem_nil, or_false] at hc; subst hc; exact True.intro) | (intro c hc; simp only [List.mem_cons, List.not_mem_nil, or_false] at hc; rcases hc with rfl | rfl <;> exact True.intro))))
     repeat' ((fail_if_success (with_reducible refine AWp.atSeq 7 ?_));(fail_if_success (with_reducible refine AWp.atLast 7 ?_));first|((first|(refine zT ?_;intro K' hK')|(refine zG ?_ ?_<;>(try refine zH ?_)<;>intro hguard<;>(try exact zX)<;>try intro K' hK'))<;>((try simp +contextual only [go_sem, eA, eB, fC_len, hfl, htk12, List.append_assoc, sA, sB, hst, fC_free]);(repeat' first|(with_reducible refine hK' _ _ ?_;clear hK' K')|exact zY|with_reducible refine And.intro ?_ ?_|(with_reducible intro hpath;try exact zP)|(refine hK' _ _ ?_;clear hK' K')|fail);try refine zS ?_))|(refine zE ?_;refine hK _ _ ?_;clear hK K)|(refine zN ?_;try refine zS ?_)|refine zA ?_|(refine zB ?_;intro K hK)|(refine zC ?_ ?_<;>(try refine zH ?_)<;>intro hcond<;>try exact zX)|fail)
     refine AWp.seq (AWp.of_adr (by kernel_rfl) ?_)
     refine ADr.seg' 2 1 [(38, .c (.slice (pRows L) .none))] (by kernel_rfl) (by kernel_rfl) rfl (.inl ⟨rfl, (step_move _ (.inl rfl)).n⟩) (zQ trivial) (by rintro r H' ⟨rfl, rfl⟩; exact zQ trivial) ?_
     rintro r H' ⟨rfl, rfl⟩
     simp only [setVals, aput, aeval, List.getD_cons_succ, List.getD_cons_zero, List.set_cons_succ, List.set_cons_zero]
     by_cases hjn : rt a0 = rt b0
     ·
      rw [decide_eq_true hjn, Bool.not_true] at hJ
      refine ADr.run 4 (by kernel_rfl) (by decide) (fun K hK => ?_)
      simp only [Nat.reduceAdd, List.drop_succ_cons, List.drop_zero, List.take_succ_cons, List.take_zero]
      repeat' (first|((first|(refine zT ?_;intro K' hK')|(refine zG ?_ ?_<;>(try refine zH ?_)<;>intro hguard<;>(try exact zX)<;>try intro K' hK'))<;>((try simp +contextual only [go_sem, hltI, e1, pRows_len, Int.toNat_natCast]);(repeat' first|(with_reducible refine hK' _ _ ?_;clear hK' K')|((with_reducible first|refine ⟨_,_,hJ,?_⟩|refine ⟨_,hJ,?_⟩);try simp +contextual only [go_sem, hltI, e1, pRows_len, Int.toNat_natCast])|exact zY|with_reducible refine And.intro ?_ ?_|(with_reducible intro hpath;try exact zP)|(refine hK' _ _ ?_;clear hK' K')|fail);try refine zS ?_))|(refine zE ?_;refine hK _ _ ?_;clear hK K)|(refine zN ?_;try refine zS ?_)|fail)
      try simp only [Nat.reduceAdd]
      refine ADr.seg' 16 15 [(44, .tup []), (45, .tup []), (46, .tup []), (47, .tup []), (48, .tup []), (49, .tup []), (50, .tup []), (51, .tup []), (52, .tup [])] (by kernel_rfl) (by kernel_rfl) rfl (R := fun r H => r = .tup [] ∧ H = _) (.inr ⟨rfl, rfl, rfl⟩) zQs (by rintro r H' ⟨rfl, rfl⟩; exact zQs) ?_
      rintro r H' ⟨rfl, rfl⟩
      simp only [setVals, aput, aeval, List.getD_cons_succ, List.getD_cons_zero, List.set_cons_succ, List.set_cons_zero]
      refine ADr.run 1 (by kernel_rfl) (by decide) (fun K hK => ?_)
      simp only [Nat.reduceAdd, List.drop_succ_cons, List.drop_zero, List.take_succ_cons, List.take_zero]
      repeat' (first|((first|(refine zT ?_;intro K' hK')|(refine zG ?_ ?_<;>(try refine zH ?_)<;>intro hguard<;>(try exact zX)<;>try intro K' hK'))<;>((try simp +contextual only [go_sem]);(repeat' first|(with_reducible refine hK' _ _ ?_;clear hK' K')|exact zY|with_reducible refine And.intro ?_ ?_|(with_reducible intro hpath;try exact zP)|(refine hK' _ _ ?_;clear hK' K')|fail);try refine zS ?_))|(refine zE ?_;refine hK _ _ ?_;clear hK K)|(refine zN ?_;try refine zS ?_)|fail)
      try simp only [Nat.reduceAdd]
      refine ADr.done (by decide) ?_
      have hna : ¬ acyc (pkN L (t ++ [a])) := fun h => by rw [hpk, acyc_snoc] at h; exact h.2 (hjc.1 hjn)
      rw [if_neg hna, List.nil_append] at hgs
      rw [hgs] at hcnt hxa
      refine zR trivial trivial trivial ?_
      refine ⟨(a + 1, k),Weak.headN (H1.length + 2) 55 [0, 3, 5, 6, 9, 10, 11] (by (repeat' (first | exact valsIn_nil _ | exact blksIn_nil _ | exact cellsIn_nil _ | refine And.intro ?_ ?_ | refine valsIn_cons ?_ ?_ | refine blksIn_cons ?_ ?_ | refine cellsIn_cons ?_ ?_ | exact True.intro | exact inF (by assumption) _ | exact fC_in | (show _ < _; omega) | exact cellsIn_map (fun _ => True.intro) | (intro c hc; cases hc; done) | (intro c hc; simp only [List.mem_cons, List.not_mem_nil, or_false] at hc; subst hc; exact True.intro) | (intro c hc; simp only [List.mem_cons, List.not_mem_nil, or_false] at hc; rcases hc with rfl | rfl <;> exact True.intro)))),?_,?_⟩
      ·exact ⟨by omega, hlt, hcnt, hxa⟩
      ·simp only; omega
     ·
      rw [decide_eq_false hjn, Bool.not_false] at hJ
      refine ADr.run 4 (by kernel_rfl) (by decide) (fun K hK => ?_)
      simp only [Nat.reduceAdd, List.drop_succ_cons, List.drop_zero, List.take_succ_cons, List.take_zero]
      repeat' (first|((first|(refine zT ?_;intro K' hK')|(refine zG ?_ ?_<;>(try refine zH ?_)<;>intro hguard<;>(try exact zX)<;>try intro K' hK'))<;>((try simp +contextual only [go_sem, hltI, e1, pRows_len, Int.toNat_natCast]);(repeat' first|(with_reducible refine hK' _ _ ?_;clear hK' K')|((with_reducible first|refine ⟨_,_,hJ,?_⟩|refine ⟨_,hJ,?_⟩);try simp +contextual only [go_sem, hltI, e1, pRows_len, Int.toNat_natCast])|exact zY|with_reducible refine And.intro ?_ ?_|(with_reducible intro hpath;try exact zP)|(refine hK' _ _ ?_;clear hK' K')|fail);try refine zS ?_))|(refine zE ?_;refine hK _ _ ?_;clear hK K)|(refine zN ?_;try refine zS ?_)|fail)
      try simp only [Nat.reduceAdd]
      have hya : acyc (pkN L (t ++ [a])) := by rw [hpk, acyc_snoc]; exact ⟨hac, fun h => hjn (hjc.2 h)⟩
      rw [if_pos hya] at hgs
      rw [hgs] at hcnt hxa
      have hch : chunks 1 1 [Tree.int .i64 (a : Int)] = [[Tree.int .i64 (a : Int)]] := rfl
      have hrg : -9223372036854775808 ≤ (a : Int) + 1 ∧ (a : Int) + 1 ≤ 9223372036854775807 := by omega
      have hfl2 : (F.set (rt a0) (rt b0)).length = 12 := by rw [List.length_set]; exact hfl
      have hfn := hG.fn [.box (fC F), .box (fC (F.set (rt a0) (rt b0))), .box [.int .i64 (a0 : Int), .int .i64 (b0 : Int)]]
      have h51 := eB [.box (fC F), .box (fC (F.set (rt a0) (rt b0))), .box [.int .i64 (a0 : Int), .int .i64 (b0 : Int)]]
      refine ADr.seg' 14 10 [(44, .c (.fn 156 (growCaps n L))), (45, .c (.vec (j + 1) t.length cap)), (46, .c (.int .i64 (a : Int))), (47, .c (.slice [[.int .i64 (a : Int)]] .exact)), (49, .c (.int .i64 (a : Int))), (50, .c (.int .i64 ((a : Int) + 1))), (51, .agg (fC (F.set (rt a0) (rt b0))))] (by kernel_rfl) (by kernel_rfl) rfl
       (.inl ⟨rfl, step_append_vec (e := 3) (e2 := 3) (by' := 8) (z := .int .i64 0) (used := nC t) (tr := .int .i64 (a : Int)) (tok := .exact) rfl (by simp only [ty]) (by simp only [ty]) (by simp only [ty]) (by simp only [ty]) rfl (by simp only [ty]) rfl ?_ (nC_len t) hcap rfl (by omega) (by omega)⟩) ?_ ?_ ?_
      ·rcases hV with ⟨h1, h2⟩ | ⟨h1, h2⟩
       ·exact .inl ⟨h1, by rw [h2]; rfl⟩
       ·exact .inr (by rw [List.getElem?_cons_succ, List.getElem?_append_left hj]; exact h2)
      ·exact zQ (And.intro hfn (And.intro h51 (And.intro htk2 (And.intro hch (And.intro hrg (And.intro hfl2 (And.intro fC_len True.intro)))))))
      ·rintro r H' (⟨hlc, rfl, rfl⟩ | ⟨cap', hc', rfl, rfl⟩)
       ·obtain ⟨h2j, hVj⟩ := hV.resolve_left fun h => by omega
        have e : (.ghost (J k) :: (H1 ++ [.box (fC F), .box (fC (F.set (rt a0) (rt b0))), .box [.int .i64 (a0 : Int), .int .i64 (b0 : Int)]]) : List Blk).set (j + 1) (.box (nC t ++ [cellOf (.int .i64 (a : Int))] ++ List.replicate (cap - (t.length + 1)) .any)) = .ghost (J k) :: (H1.set j (.box (nC (t ++ [a]) ++ List.replicate (cap - (t.length + 1)) .any)) ++ [.box (fC F), .box (fC (F.set (rt a0) (rt b0))), .box [.int .i64 (a0 : Int), .int .i64 (b0 : Int)]]) := by
         rw [List.set_cons_succ, List.set_append_left _ _ hj, ← nC_snoc]; rfl
        have hGp := hG.put h2j (B := .box (nC (t ++ [a]) ++ List.replicate (cap - (t.length + 1)) .any)) (nC_okB _ (by simp)) (fun m => nC_in _ _)
        have hfn' := hGp.fn [.box (fC F), .box (fC (F.set (rt a0) (rt b0))), .box [.int .i64 (a0 : Int), .int .i64 (b0 : Int)]]
        have h51' : (H1.set j (.box (nC (t ++ [a]) ++ List.replicate (cap - (t.length + 1)) .any)) ++ [.box (fC F), .box (fC (F.set (rt a0) (rt b0))), .box [.int .i64 (a0 : Int), .int .i64 (b0 : Int)]])[H1.length + 1]? = some (Blk.box (fC (F.set (rt a0) (rt b0)))) := by
         rw [List.getElem?_append_right (by rw [List.length_set]; omega), List.length_set, show H1.length + 1 - H1.length = 1 by omega]; rfl
        rw [e]
        exact zQ (And.intro hfn' (And.intro h51' (And.intro htk2 (And.intro hch (And.intro hrg (And.intro hfl2 (And.intro fC_len True.intro)))))))
       ·have hfn' := hG.fn [.box (fC F), .box (fC (F.set (rt a0) (rt b0))), .box [.int .i64 (a0 : Int), .int .i64 (b0 : Int)], .box (nC t ++ [cellOf (.int .i64 (a : Int))] ++ List.replicate (cap' - (t.length + 1)) .any)]
        have h51' := eB [.box (fC F), .box (fC (F.set (rt a0) (rt b0))), .box [.int .i64 (a0 : Int), .int .i64 (b0 : Int)], .box (nC t ++ [cellOf (.int .i64 (a : Int))] ++ List.replicate (cap' - (t.length + 1)) .any)]
        simp only [List.cons_append, List.append_assoc, List.nil_append] at hfn' h51' ⊢
        exact zQ (And.intro hfn' (And.intro h51' (And.intro htk2 (And.intro hch (And.intro hrg (And.intro hfl2 (And.intro fC_len True.intro)))))))
      ·have hxn : ∀ i T, (growS n L (L.length - (a + 1)) (t ++ [a]) (a + 1))[i]? = some T → xs[k + i]? = some [tnats T] := fun i T h =>
        hxa i T (by rw [List.getElem?_append_left (List.getElem?_eq_some_iff.1 h).1]; exact h)
       have hxr : ∀ i T, (growS n L (L.length - (a + 1)) t (a + 1))[i]? = some T → xs[(k + (growS n L (L.length - (a + 1)) (t ++ [a]) (a + 1)).length) + i]? = some [tnats T] := fun i T h => by
        have := hxa ((growS n L (L.length - (a + 1)) (t ++ [a]) (a + 1)).length + i) T (by rw [List.getElem?_append_right (Nat.le_add_right _ _), Nat.add_sub_cancel_left]; exact h)
        rwa [← Nat.add_assoc] at this
       have hcr : (k + (growS n L (L.length - (a + 1)) (t ++ [a]) (a + 1)).length) + (growS n L (L.length - (a + 1)) t (a + 1)).length = k0 + (growS n L fuel t e).length := by
        rw [← hcnt, List.length_append]; omega
       have htl2 : ∀ x, x ∈ t ++ [a] → x < L.length := fun x hx => by
        rcases List.mem_append.1 hx with hx | hx
        ·exact htL x hx
        ·rw [List.mem_singleton] at hx; omega
       have el : (t ++ [a]).length = t.length + 1 := by simp
       have ei : ((a + 1 : Nat) : Int) = (a : Int) + 1 := by omega
       have okX : ∀ b, b ∈ ([.box (fC F), .box (fC (F.set (rt a0) (rt b0))), .box [.int .i64 (a0 : Int), .int .i64 (b0 : Int)]] : List Blk) → okBlk b := fun b hb => by
        simp only [List.mem_cons, List.not_mem_nil, or_false] at hb
        rcases hb with rfl | rfl | rfl
        ·exact okF (H1 := []) (by simp) hfl _ (by simp)
        ·exact okF (H1 := []) (by simp) hfl2 _ (by simp)
        ·exact trivial
       have inX : ∀ b, b ∈ ([.box (fC F), .box (fC (F.set (rt a0) (rt b0))), .box [.int .i64 (a0 : Int), .int .i64 (b0 : Int)]] : List Blk) → ∀ m, blkIn m b := fun b hb m => by
        simp only [List.mem_cons, List.not_mem_nil, or_false] at hb
        rcases hb with rfl | rfl | rfl
        ·exact fC_in
        ·exact fC_in
        ·intro c hc
         simp only [List.mem_cons, List.not_mem_nil, or_false] at hc
         rcases hc with rfl | rfl <;> exact trivial
       rintro r H' (⟨hlc, rfl, rfl⟩ | ⟨cap', hc', rfl, rfl⟩)
       ·obtain ⟨h2j, hVj⟩ := hV.resolve_left fun h => by omega
        have e : (.ghost (J k) :: (H1 ++ [.box (fC F), .box (fC (F.set (rt a0) (rt b0))), .box [.int .i64 (a0 : Int), .int .i64 (b0 : Int)]]) : List Blk).set (j + 1) (.box (nC t ++ [cellOf (.int .i64 (a : Int))] ++ List.replicate (cap - (t.length + 1)) .any)) = .ghost (J k) :: (H1.set j (.box (nC (t ++ [a]) ++ List.replicate (cap - (t.length + 1)) .any)) ++ [.box (fC F), .box (fC (F.set (rt a0) (rt b0))), .box [.int .i64 (a0 : Int), .int .i64 (b0 : Int)]]) := by
         rw [List.set_cons_succ, List.set_append_left _ _ hj, ← nC_snoc]; rfl
        have hGp := hG.put h2j (B := (.box (nC (t ++ [a]) ++ List.replicate (cap - (t.length + 1)) .any))) (nC_okB _ (by simp)) (fun m => nC_in _ _)
        have hcall := ih (L.length - (a + 1)) (by omega) (t ++ [a]) (a + 1) (F.set (rt a0) (rt b0)) k (H1.set j (.box (nC (t ++ [a]) ++ List.replicate (cap - (t.length + 1)) .any)) ++ [.box (fC F), .box (fC (F.set (rt a0) (rt b0))), .box [.int .i64 (a0 : Int), .int .i64 (b0 : Int)]]) j cap (by omega) tn hya htl2 (by omega) hxn (hGp.app okX inX) (.inr ⟨h2j, by rw [el, List.getElem?_append_left (by rw [List.length_set]; exact hj), List.getElem?_set_self hj]⟩) (by rw [List.length_append, List.length_set]; omega) (by omega)
        rw [el, ei] at hcall
        rw [e]
        simp only [setVals, aput, aeval, List.getD_cons_succ, List.getD_cons_zero, List.set_cons_succ, List.set_cons_zero]
        refine ADr.one' (by kernel_rfl) rfl (.inl ⟨rfl, step_callE rfl rfl hcall⟩) ?_
        rintro r H' (⟨rfl, rfl⟩ | ⟨rfl, rfl⟩)
        ·
         simp only [setVals, aput, aeval, List.getD_cons_succ, List.getD_cons_zero, List.set_cons_succ, List.set_cons_zero]
         refine ADr.run 2 (by kernel_rfl) (by decide) (fun K hK => ?_)
         simp only [Nat.reduceAdd, List.drop_succ_cons, List.drop_zero, List.take_succ_cons, List.take_zero]
         repeat' (first|((first|(refine zT ?_;intro K' hK')|(refine zG ?_ ?_<;>(try refine zH ?_)<;>intro hguard<;>(try exact zX)<;>try intro K' hK'))<;>((try simp +contextual only [go_sem]);(repeat' first|(with_reducible refine hK' _ _ ?_;clear hK' K')|exact zY|with_reducible refine And.intro ?_ ?_|(with_reducible intro hpath;try exact zP)|(refine hK' _ _ ?_;clear hK' K')|fail);try refine zS ?_))|(refine zE ?_;refine hK _ _ ?_;clear hK K)|(refine zN ?_;try refine zS ?_)|fail)
         try simp only [Nat.reduceAdd]
         refine ADr.done (by decide) (AThen.n ?_)
         refine AWp.cellAny (j + 1) t.length (cs := nC (t ++ [a]) ++ List.replicate (cap - (t.length + 1)) .any) (by rw [List.getElem?_cons_succ, List.getElem?_append_left (by rw [List.length_set]; exact hj), List.getElem?_set_self hj]) ?_
         rw [nC_back hlc, set_back hVj]
         refine zR trivial trivial trivial ?_
         refine ⟨(a + 1, k + (growS n L (L.length - (a + 1)) (t ++ [a]) (a + 1)).length),Weak.headN (H1.length + 2) 55 [0, 3, 5, 6, 9, 10, 11] (by (repeat' (first | exact valsIn_nil _ | exact blksIn_nil _ | exact cellsIn_nil _ | refine And.intro ?_ ?_ | refine valsIn_cons ?_ ?_ | refine blksIn_cons ?_ ?_ | refine cellsIn_cons ?_ ?_ | exact True.intro | exact inF (by assumption) _ | exact fC_in | (show _ < _; omega) | exact cellsIn_map (fun _ => True.intro) | (intro c hc; cases hc; done) | (intro c hc; simp only [List.mem_cons, List.not_mem_nil, or_false] at hc; subst hc; exact True.intro) | (intro c hc; simp only [List.mem_cons, List.not_mem_nil, or_false] at hc; rcases hc with rfl | rfl <;> exact True.intro)))),?_,?_⟩
         ·exact ⟨by omega, hlt, hcr, hxr⟩
         ·simp only; omega
        ·
         simp only [setVals, aput, aeval, List.getD_cons_succ, List.getD_cons_zero, List.set_cons_succ, List.set_cons_zero]
         refine ADr.run 2 (by kernel_rfl) (by decide) (fun K hK => ?_)
         simp only [Nat.reduceAdd, List.drop_succ_cons, List.drop_zero, List.take_succ_cons, List.take_zero]
         repeat' (first|((first|(refine zT ?_;intro K' hK')|(refine zG ?_ ?_<;>(try refine zH ?_)<;>intro hguard<;>(try exact zX)<;>try intro K' hK'))<;>((try simp +contextual only [go_sem]);(repeat' first|(with_reducible refine hK' _ _ ?_;clear hK' K')|exact zY|with_reducible refine And.intro ?_ ?_|(with_reducible intro hpath;try exact zP)|(refine hK' _ _ ?_;clear hK' K')|fail);try refine zS ?_))|(refine zE ?_;refine hK _ _ ?_;clear hK K)|(refine zN ?_;try refine zS ?_)|fail)
         try simp only [Nat.reduceAdd]
         refine ADr.done (by decide) (AThen.n ?_)
         refine AWp.cellAny (j + 1) t.length (cs := nC (t ++ [a]) ++ List.replicate (cap - (t.length + 1)) .any) (by rw [List.getElem?_cons_succ, List.getElem?_append_left (by rw [List.length_set]; exact hj), List.getElem?_set_self hj]) ?_
         rw [nC_back hlc, set_back hVj]
         refine zR trivial trivial trivial ?_
         exact ⟨trivial, _, ⟨_, .inr ⟨rfl, rfl⟩⟩, by simp [aretH, ares, noTup, Tryz.results156]⟩
       ·have el2 : (.ghost (J k) :: (H1 ++ [.box (fC F), .box (fC (F.set (rt a0) (rt b0))), .box [.int .i64 (a0 : Int), .int .i64 (b0 : Int)]]) : List Blk).length = (H1.length + 3) + 1 := by simp
        have e : (.ghost (J k) :: (H1 ++ [.box (fC F), .box (fC (F.set (rt a0) (rt b0))), .box [.int .i64 (a0 : Int), .int .i64 (b0 : Int)]]) : List Blk) ++ [.box (nC t ++ [cellOf (.int .i64 (a : Int))] ++ List.replicate (cap' - (t.length + 1)) .any)] = .ghost (J k) :: (H1 ++ [.box (fC F), .box (fC (F.set (rt a0) (rt b0))), .box [.int .i64 (a0 : Int), .int .i64 (b0 : Int)]] ++ [.box (nC (t ++ [a]) ++ List.replicate (cap' - (t.length + 1)) .any)]) := by
         rw [← nC_snoc]; rfl
        have hcall := ih (L.length - (a + 1)) (by omega) (t ++ [a]) (a + 1) (F.set (rt a0) (rt b0)) k (H1 ++ [.box (fC F), .box (fC (F.set (rt a0) (rt b0))), .box [.int .i64 (a0 : Int), .int .i64 (b0 : Int)]] ++ [.box (nC (t ++ [a]) ++ List.replicate (cap' - (t.length + 1)) .any)]) (H1.length + 3) cap' (by omega) tn hya htl2 (by omega) hxn
         ((hG.app okX inX).app (fun b hb => by rw [List.mem_singleton] at hb; subst hb; exact nC_okB _ (by simp)) (fun b hb m => by rw [List.mem_singleton] at hb; subst hb; exact nC_in _ _))
         (.inr ⟨by have := hG.len; omega, by rw [el, List.getElem?_append_right (by simp)]; simp⟩) (by simp) (by omega)
        rw [el, ei] at hcall
        rw [e, el2]
        simp only [setVals, aput, aeval, List.getD_cons_succ, List.getD_cons_zero, List.set_cons_succ, List.set_cons_zero]
        refine ADr.one' (by kernel_rfl) rfl (.inl ⟨rfl, step_callE rfl rfl hcall⟩) ?_
        rintro r H' (⟨rfl, rfl⟩ | ⟨rfl, rfl⟩)
        ·
         simp only [setVals, aput, aeval, List.getD_cons_succ, List.getD_cons_zero, List.set_cons_succ, List.set_cons_zero]
         refine ADr.run 2 (by kernel_rfl) (by decide) (fun K hK => ?_)
         simp only [Nat.reduceAdd, List.drop_succ_cons, List.drop_zero, List.take_succ_cons, List.take_zero]
         repeat' (first|((first|(refine zT ?_;intro K' hK')|(refine zG ?_ ?_<;>(try refine zH ?_)<;>intro hguard<;>(try exact zX)<;>try intro K' hK'))<;>((try simp +contextual only [go_sem]);(repeat' first|(with_reducible refine hK' _ _ ?_;clear hK' K')|exact zY|with_reducible refine And.intro ?_ ?_|(with_reducible intro hpath;try exact zP)|(refine hK' _ _ ?_;clear hK' K')|fail);try refine zS ?_))|(refine zE ?_;refine hK _ _ ?_;clear hK K)|(refine zN ?_;try refine zS ?_)|fail)
         try simp only [Nat.reduceAdd]
         refine ADr.done (by decide) (AThen.n ?_)
         rw [List.append_assoc]
         refine zR trivial trivial trivial ?_
         refine ⟨(a + 1, k + (growS n L (L.length - (a + 1)) (t ++ [a]) (a + 1)).length),Weak.headN (H1.length + 2) 55 [0, 3, 5, 6, 9, 10, 11] (by (repeat' (first | exact valsIn_nil _ | exact blksIn_nil _ | exact cellsIn_nil _ | refine And.intro ?_ ?_ | refine valsIn_cons ?_ ?_ | refine blksIn_cons ?_ ?_ | refine cellsIn_cons ?_ ?_ | exact True.intro | exact inF (by assumption) _ | exact fC_in | (show _ < _; omega) | exact cellsIn_map (fun _ => True.intro) | (intro c hc; cases hc; done) | (intro c hc; simp only [List.mem_cons, List.not_mem_nil, or_false] at hc; subst hc; exact True.intro) | (intro c hc; simp only [List.mem_cons, List.not_mem_nil, or_false] at hc; rcases hc with rfl | rfl <;> exact True.intro)))),?_,?_⟩
         ·exact ⟨by omega, hlt, hcr, hxr⟩
         ·simp only; omega
        ·
         simp only [setVals, aput, aeval, List.getD_cons_succ, List.getD_cons_zero, List.set_cons_succ, List.set_cons_zero]
         refine ADr.run 2 (by kernel_rfl) (by decide) (fun K hK => ?_)
         simp only [Nat.reduceAdd, List.drop_succ_cons, List.drop_zero, List.take_succ_cons, List.take_zero]
         repeat' (first|((first|(refine zT ?_;intro K' hK')|(refine zG ?_ ?_<;>(try refine zH ?_)<;>intro hguard<;>(try exact zX)<;>try intro K' hK'))<;>((try simp +contextual only [go_sem]);(repeat' first|(with_reducible refine hK' _ _ ?_;clear hK' K')|exact zY|with_reducible refine And.intro ?_ ?_|(with_reducible intro hpath;try exact zP)|(refine hK' _ _ ?_;clear hK' K')|fail);try refine zS ?_))|(refine zE ?_;refine hK _ _ ?_;clear hK K)|(refine zN ?_;try refine zS ?_)|fail)
         try simp only [Nat.reduceAdd]
         refine ADr.done (by decide) (AThen.n ?_)
         rw [List.append_assoc]
         refine zR trivial trivial trivial ?_
         exact ⟨trivial, _, ⟨_, .inr ⟨rfl, rfl⟩⟩, by simp [aretH, ares, noTup, Tryz.results156]⟩
    ·rw [decide_eq_false hc1] at hcH
     have hg0 := growS_nil (by omega) hL (k := L.length - a) hac htL (by omega) hc1
     rw [hg0, List.length_nil, Nat.add_zero] at hcnt
     repeat' ((fail_if_success (with_reducible refine AWp.atSeq 7 ?_));(fail_if_success (with_reducible refine AWp.atLast 7 ?_));first|((first|(refine zT ?_;intro K' hK')|(refine zG ?_ ?_<;>(try refine zH ?_)<;>intro hguard<;>(try exact zX)<;>try intro K' hK'))<;>((try simp +contextual only [go_sem, hltI, pRows_len, hdr, htp, eA, eB, fC_len, hfl, htk12, Int.toNat_natCast]);(repeat' first|(with_reducible refine hK' _ _ ?_;clear hK' K')|((with_reducible first|refine ⟨_,_,(hcH _ _),?_⟩|refine ⟨_,(hcH _ _),?_⟩);try simp +contextual only [go_sem, hltI, pRows_len, hdr, htp, eA, eB, fC_len, hfl, htk12, Int.toNat_natCast])|(with_reducible exact pRows_k' (by assumption))|exact zY|with_reducible refine And.intro ?_ ?_|(with_reducible intro hpath;try exact zP)|(refine hK' _ _ ?_;clear hK' K')|fail);try refine zS ?_))|(refine zE ?_;refine hK _ _ ?_;clear hK K)|(refine zN ?_;try refine zS ?_)|refine zA ?_|(refine zB ?_;intro K hK)|(refine zC ?_ ?_<;>(try refine zH ?_)<;>intro hcond<;>try exact zX)|fail)
     all_goals exact ⟨trivial, _, ⟨_, .inl ⟨rfl, by rw [hcnt]⟩⟩, by simp [aretH, ares, noTup, Tryz.results156]⟩
   ·have ea : a = L.length := by omega
    subst ea
    have hnl : ¬ ((L.length : Int) < L.length) := by omega
    rw [Nat.sub_self, growS, if_neg hfull, List.length_nil, Nat.add_zero] at hcnt
    repeat' ((fail_if_success (with_reducible refine AWp.atSeq 7 ?_));(fail_if_success (with_reducible refine AWp.atLast 7 ?_));first|((first|(refine zT ?_;intro K' hK')|(refine zG ?_ ?_<;>(try refine zH ?_)<;>intro hguard<;>(try exact zX)<;>try intro K' hK'))<;>((try simp +contextual only [go_sem, hnl, pRows_len]);(repeat' first|(with_reducible refine hK' _ _ ?_;clear hK' K')|exact zY|with_reducible refine And.intro ?_ ?_|(with_reducible intro hpath;try exact zP)|(refine hK' _ _ ?_;clear hK' K')|fail);try refine zS ?_))|(refine zE ?_;refine hK _ _ ?_;clear hK K)|(refine zN ?_;try refine zS ?_)|refine zA ?_|(refine zB ?_;intro K hK)|(refine zC ?_ ?_<;>(try refine zH ?_)<;>intro hcond<;>try exact zX)|fail)
    exact ⟨trivial, _, ⟨_, .inl ⟨rfl, by rw [hcnt]⟩⟩, by simp [aretH, ares, noTup, Tryz.results156]⟩
def triG : G := ⟨3, [⟨0, 1, 1⟩, ⟨0, 2, 1⟩, ⟨1, 2, 1⟩]⟩
def triR : R := ⟨3, [⟨0, 1, 1⟩, ⟨0, 2, 1⟩, ⟨1, 2, 1⟩], [[0, 2], [1, 4], [3, 5]]⟩
def loopR (l : List Int) : R := ⟨1, [⟨0, 0, 2⟩], [l]⟩
theorem tri_joined : joinedE triG = 0 := by kernel_rfl
theorem tri_halves : halvesL (endsL triG.es) triG.n.toNat (2 * (endsL triG.es).length) = [[0, 2], [1, 4], [3, 5]] := by kernel_rfl
theorem tri_rib : ribE triR = 0 := by kernel_rfl
theorem tri_faces : facesI triR = [[0, 4, 3], [1, 2, 5]] := by kernel_rfl
theorem tri_flen : (facesR triR).length = 2 := by kernel_rfl
theorem tri_joins : joinsR triR = [(0, 1), (1, 0), (0, 1)] := by kernel_rfl
theorem tri_num : numI (joinsR triR) = [0, 1, 2] := by kernel_rfl
theorem tri_ar : dualAr triR = [[0, 4, 2], [1, 3, 5]] := by kernel_rfl
theorem tri_bag : bagL [(0, 1), (1, 0), (0, 1)] = [⟨0, 1, 3⟩] := by kernel_rfl
theorem loopA_rib : ribE (loopR [0, 1, 2, 3]) = 0 := by kernel_rfl
theorem loopB_rib : ribE (loopR [0, 2, 1, 3]) = 0 := by kernel_rfl
theorem loopA_faces : facesI (loopR [0, 1, 2, 3]) = [[0, 2], [1], [3]] := by kernel_rfl
theorem loopB_faces : facesI (loopR [0, 2, 1, 3]) = [[0, 3, 1, 2]] := by kernel_rfl
theorem loopA_genus : genusR (loopR [0, 1, 2, 3]) = 0 := by kernel_rfl
theorem loopB_genus : genusR (loopR [0, 2, 1, 3]) = 1 := by kernel_rfl
theorem tri_make : dualM triR = (⟨2, [⟨0, 1, 3⟩]⟩, 0) := by
 unfold dualM
 rw [tri_flen, tri_joins]
 unfold makeE
 rw [if_neg (by decide), if_neg (by decide), if_neg, if_neg, tri_bag]
 ·rw [sortE_eq (l := [⟨0, 1, 3⟩]) (List.pairwise_singleton _ _) (List.Perm.refl _)]; rfl
 ·rw [tri_bag]
  rintro ⟨e, he, h⟩
  simp at he
  subst he
  simp at h
 ·rintro ⟨p, hp, h⟩
  refine h ?_
  simp at hp
  rcases hp with rfl | rfl | rfl <;> decide
theorem tri_dualE : dualE triR = 0 := by
 unfold dualE
 rw [tri_rib, if_neg (by decide), tri_flen, if_neg (by decide), tri_make]
theorem tri_dualD : dualD triR = ⟨2, [⟨0, 1, 3⟩], [[0, 4, 2], [1, 3, 5]]⟩ := by
 unfold dualD
 rw [tri_dualE, if_neg (by decide), tri_make, tri_ar]
theorem tri_dualN : dualN triR = [0, 1, 2] := by
 unfold dualN
 rw [tri_dualE, if_neg (by decide), tri_num]
theorem rsm_tri : RSm triR := ⟨by decide, by decide, by decide⟩
theorem rsm_loop (l : List Int) (h : l.length < 2 ^ 20) : RSm (loopR l) := ⟨by simp [loopR], by simp [loopR], fun x hx => by simp [loopR] at hx; subst hx; exact h⟩
end Go.Proofs.YtfkegnhpihoncaaGreat
