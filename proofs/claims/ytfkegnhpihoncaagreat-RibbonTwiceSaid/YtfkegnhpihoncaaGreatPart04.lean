/- A part of the proof: contracts of functions of the program, and plain lemmas. -/
import Derived.Test.YtfkegnhpihoncaaGreatPart03
import Derived.Test.YtfkegnhpihoncaaGreatLayerC
import Derived.Test.YtfkegnhpihoncaaGreatPart02
import Derived.Test.YtfkegnhpihoncaaGreatLayerB
set_option linter.all false
namespace Go.Proofs.YtfkegnhpihoncaaGreat
open Go.Sp
set_option linter.unusedSimpArgs false
set_option linter.unusedVariables false
set_option maxHeartbeats 4000000
set_option maxRecDepth 100000
theorem SizeR_ok (g : G) (hs : (endsL g.es).length < 2 ^ 40) (hl : g.es.length < 2 ^ 40) (hm : ∀ e, e ∈ g.es → e.m < 2 ^ 40) : ACall Tryz.prog 20 [tG g] (tint (endsL g.es).length) := by
  refine ACall.of_body Tryz.func20 rfl (by kernel_rfl) ?_
  simp only [entry, Tryz.ntmps20, tG]
  refine zU ?_
  repeat' (first|((first|(refine zT ?_;intro K' hK')|(refine zG ?_ ?_<;>(try refine zH ?_)<;>intro hguard<;>(try exact zX)<;>try intro K' hK'))<;>((try simp +contextual only [go_sem, pRows_len]);(repeat' first|(with_reducible refine hK' _ _ ?_;clear hK' K')|(with_reducible refine zK (EndsR_ok g hs hl hm) ?_;try simp +contextual only [go_sem, pRows_len])|exact zY|with_reducible refine And.intro ?_ ?_|(with_reducible intro hpath;try exact zP)|(refine hK' _ _ ?_;clear hK' K')|fail);try refine zS ?_))|(refine zE ?_;refine hK _ _ ?_;clear hK K)|(refine zN ?_;try refine zS ?_)|refine zA ?_|(refine zB ?_;intro K hK)|(refine zC ?_ ?_<;>(try refine zH ?_)<;>intro hcond<;>try exact zX)|fail)
  all_goals
    simp [Rets, aret, Blk.cells, ty, Tryz.results20, ares, toT1, toT, borrow, borrow0, capCell, toTree0, tint]
def lastE (es : List E) : Nat → Int × Int
  | 0 => (-1, -1)
  | j + 1 => match es[j]? with
    | some y => (y.a, y.b)
    | none => (-1, -1)
def badE (n : Int) (x : E) : Prop := ¬ (0 ≤ x.a ∧ x.a < n) ∨ ¬ (0 ≤ x.b ∧ x.b < n) ∨ x.m < 1 ∨ 50 < x.m
theorem edgeE_bad {n : Int} {es : List E} {i : Nat} (hi : i < es.length) (h : badE n es[i]) : edgeE n es i = 2 := by
  unfold edgeE; rw [List.getElem?_eq_getElem hi]; exact if_pos h
theorem edgeE_nine {n : Int} {es : List E} {i : Nat} (hi : i < es.length) (h : ¬ badE n es[i]) (h2 : es[i].b < es[i].a ∨ 0 ≤ orI [cmpI (lastE es i).1 es[i].a, cmpI (lastE es i).2 es[i].b]) : edgeE n es i = 9 := by
  unfold edgeE; rw [List.getElem?_eq_getElem hi]
  simp only
  unfold badE at h
  rw [if_neg h]
  by_cases hb : es[i].b < es[i].a
  · rw [if_pos hb]
  · rw [if_neg hb]
    rcases h2 with h2 | h2
    · exact absurd h2 hb
    · cases i with
      | zero => exfalso; simp only [lastE, orI, cmpI] at h2; (repeat' split at h2) <;> omega
      | succ j =>
        have hj : j < es.length := by omega
        simp only [lastE, List.getElem?_eq_getElem hj, orI, cmpI] at h2 ⊢
        rw [if_pos]
        (repeat' split at h2) <;> omega
theorem edgeE_zero {n : Int} {es : List E} {i : Nat} (hi : i < es.length) (h : ¬ badE n es[i]) (h1 : ¬ es[i].b < es[i].a) (h2 : ¬ 0 ≤ orI [cmpI (lastE es i).1 es[i].a, cmpI (lastE es i).2 es[i].b]) : edgeE n es i = 0 := by
  unfold edgeE; rw [List.getElem?_eq_getElem hi]
  simp only
  unfold badE at h
  rw [if_neg h, if_neg h1]
  cases i with
  | zero => rfl
  | succ j =>
    have hj : j < es.length := by omega
    simp only [lastE, List.getElem?_eq_getElem hj, orI, cmpI] at h2 ⊢
    rw [if_neg]
    (repeat' split at h2) <;> omega
theorem Check_ok (g : G) (hl : g.es.length < 2 ^ 40) : ACall Tryz.prog 143 [tG g] (tint (checkG g)) := by
  refine ACall.of_body Tryz.func143 rfl (by kernel_rfl) ?_
  simp only [entry, Tryz.ntmps143, tG]
  refine zU ?_
  repeat' (first|((first|(refine zT ?_;intro K' hK')|(refine zG ?_ ?_<;>(try refine zH ?_)<;>intro hguard<;>(try exact zX)<;>try intro K' hK'))<;>((try simp +contextual only [go_sem, eRows_len]);(repeat' first|(with_reducible refine hK' _ _ ?_;clear hK' K')|exact zY|with_reducible refine And.intro ?_ ?_|(with_reducible intro hpath;try exact zP)|(refine hK' _ _ ?_;clear hK' K')|fail);try refine zS ?_))|(refine zE ?_;refine hK _ _ ?_;clear hK K)|(refine zN ?_;try refine zS ?_)|refine zA ?_|(refine zB ?_;intro K hK)|(refine zC ?_ ?_<;>(try refine zH ?_)<;>intro hcond<;>try exact zX)|fail)
  ·
    simp [Rets, aret, Blk.cells, ty, Tryz.results143, ares, toT1, toT, borrow, borrow0, capCell, toTree0, tint, checkG]
    all_goals omega
  ·
    refine AWp.loopS (α:=Nat) 67 (fun i=>[(1,.c (.ptr 0 0)),(3,.c (.ptr 1 0)),(17,.c (.slice (eRows g.es) .none)),(18,.c (.int .i64 g.es.length)),(19,.c (.int .i64 (i : Int)))]) (fun i=>[.box [.int .i64 g.n, .slice (eRows g.es) .none], .box [.int .i64 (lastE g.es i).1, .int .i64 (lastE g.es i).2]]) (fun i=>i ≤ g.es.length ∧ checkG g = checkE g.n g.es (g.es.length - i)) (fun i=>g.es.length - i) (0) (hk:=Weak.headL 2 67 [1, 3, 17, 18, 19] zW) (h0:=?_) (round:=fun i hI=>?_)
    · exact ⟨Nat.zero_le _, by simp only [checkG, Nat.sub_zero]; rw [if_neg (by omega)]⟩
    · obtain ⟨hi, hx⟩ := hI
      by_cases hlt : i < g.es.length
      · have es : g.es.length - i = (g.es.length - (i + 1)) + 1 := by omega
        have ei : g.es.length - (g.es.length - (i + 1) + 1) = i := by omega
        rw [es, checkE, ei] at hx
        have e1 : g.es[i]? = some g.es[i] := List.getElem?_eq_getElem hlt
        have e2 := eRows_get e1
        repeat' (first|((first|(refine zT ?_;intro K' hK')|(refine zG ?_ ?_<;>(try refine zH ?_)<;>intro hguard<;>(try exact zX)<;>try intro K' hK'))<;>((try simp +contextual only [go_sem, e2, Int.toNat_natCast]);(repeat' first|(with_reducible refine hK' _ _ ?_;clear hK' K')|((with_reducible first|refine zK (vertex_ok _ _) ?_|refine zK (compare_ok _ _ _ _) ?_);try simp +contextual only [go_sem, e2, Int.toNat_natCast])|exact zY|with_reducible refine And.intro ?_ ?_|(with_reducible intro hpath;try exact zP)|(refine hK' _ _ ?_;clear hK' K')|fail);try refine zS ?_))|(refine zE ?_;refine hK _ _ ?_;clear hK K)|(refine zN ?_;try refine zS ?_)|refine zA ?_|(refine zB ?_;intro K hK)|(refine zC ?_ ?_<;>(try refine zH ?_)<;>intro hcond<;>try exact zX)|fail)
        · have h2 : checkG g = 2 := by rw [hx, edgeE_bad hlt (by unfold badE; omega), if_pos (by decide)]
          simp [Rets, aret, Blk.cells, ty, Tryz.results143, ares, toT1, toT, borrow, borrow0, capCell, toTree0, tint, h2]
        · have h9 : checkG g = 9 := by rw [hx, edgeE_nine hlt (by unfold badE; omega) (by first | exact .inl (by assumption) | exact .inr (by assumption)), if_pos (by decide)]
          simp [Rets, aret, Blk.cells, ty, Tryz.results143, ares, toT1, toT, borrow, borrow0, capCell, toTree0, tint, h9]
        · have h0 : edgeE g.n g.es i = 0 := edgeE_zero hlt (by unfold badE; omega) (by omega) (by omega)
          refine ⟨i + 1,Weak.headN 2 67 [1, 3, 17, 18, 19] zW (e1:=by first|rfl|(simp [mask,keepL, lastE, e1];done)|(simp [mask,keepL, lastE, e1]<;>simp_all<;>omega)) (e2:=by first|rfl|(simp [mask,keepL, lastE, e1];done)|(simp [mask,keepL, lastE, e1]<;>simp_all<;>omega)),?_,?_⟩
          · exact ⟨hlt, by rw [hx, if_neg (by omega)]⟩
          · omega
        · have h9 : checkG g = 9 := by rw [hx, edgeE_nine hlt (by unfold badE; omega) (by first | exact .inl (by assumption) | exact .inr (by assumption)), if_pos (by decide)]
          simp [Rets, aret, Blk.cells, ty, Tryz.results143, ares, toT1, toT, borrow, borrow0, capCell, toTree0, tint, h9]
        · have h2 : checkG g = 2 := by rw [hx, edgeE_bad hlt (by unfold badE; omega), if_pos (by decide)]
          simp [Rets, aret, Blk.cells, ty, Tryz.results143, ares, toT1, toT, borrow, borrow0, capCell, toTree0, tint, h2]
        · have h2 : checkG g = 2 := by rw [hx, edgeE_bad hlt (by unfold badE; omega), if_pos (by decide)]
          simp [Rets, aret, Blk.cells, ty, Tryz.results143, ares, toT1, toT, borrow, borrow0, capCell, toTree0, tint, h2]
        · have h2 : checkG g = 2 := by rw [hx, edgeE_bad hlt (by unfold badE; omega), if_pos (by decide)]
          simp [Rets, aret, Blk.cells, ty, Tryz.results143, ares, toT1, toT, borrow, borrow0, capCell, toTree0, tint, h2]
      · have ei : i = g.es.length := by omega
        have h0 : checkG g = 0 := by rw [hx, ei, Nat.sub_self, checkE]
        refine zR (zc @eRows_len (zc @Int.ofNat_lt trivial)) trivial trivial ?_
        simp [Rets, aret, Blk.cells, ty, Tryz.results143, ares, toT1, toT, borrow, borrow0, capCell, toTree0, tint, h0]
  ·
    simp [Rets, aret, Blk.cells, ty, Tryz.results143, ares, toT1, toT, borrow, borrow0, capCell, toTree0, tint, checkG]
    all_goals omega
end Go.Proofs.YtfkegnhpihoncaaGreat
set_option linter.all false
namespace Go.Proofs.YtfkegnhpihoncaaGreat
open Go.Sp
set_option linter.unusedSimpArgs false
set_option linter.unusedVariables false
set_option maxHeartbeats 4000000
set_option maxRecDepth 100000
def itemsP (l : List (Int × Int)) : List (List TVal) := l.zipIdx.map fun p => [tint (p.2 : Int), tpair p.1.1 p.1.2]
theorem itemsP_len (l : List (Int × Int)) : (itemsP l).length = l.length := by simp [itemsP]
theorem itemsP_get {l : List (Int × Int)} {i : Nat} {p : Int × Int} (h : l[i]? = some p) : (itemsP l)[i]? = some [tint (i : Int), tpair p.1 p.2] := by
  simp [itemsP, h]
theorem itemsP_inv {l : List (Int × Int)} {i : Nat} {ts : List TVal} (h : (itemsP l)[i]? = some ts) : ∃ p, l[i]? = some p ∧ ts = [tint (i : Int), tpair p.1 p.2] := by
  simp only [itemsP, List.getElem?_map, List.getElem?_zipIdx] at h
  cases hl : l[i]? with
  | none => simp [hl] at h
  | some p => simp [hl] at h; exact ⟨p, rfl, h.symm⟩
theorem endsL_get {es : List E} {i k : Nat} (h : i < es.length) (hk : k < (es[i]'h).m.toNat) : (endsL es)[(endsL (es.take i)).length + k]? = some (es[i].a, es[i].b) := by
  have e : endsL es = endsL (es.take i) ++ (List.replicate es[i].m.toNat (es[i].a, es[i].b) ++ endsL (es.drop (i + 1))) := by
    rw [← List.append_assoc, ← endsL_take h, ← endsL_append, List.take_append_drop]
  rw [e, List.getElem?_append_right (by omega), Nat.add_sub_cancel_left, List.getElem?_append_left (by rw [List.length_replicate]; exact hk)]
  rw [List.getElem?_replicate, if_pos hk]
theorem singles1_ok (g : G) (hs : (endsL g.es).length < 2 ^ 40) (hl : g.es.length < 2 ^ 40) (hm : ∀ e, e ∈ g.es → e.m < 2 ^ 40) : AIter Tryz.prog 172 [.rptr [.int .i64 g.n, .slice (eRows g.es)]] (itemsP (endsL g.es)) := by
  refine AIter.of_body Tryz.func172 rfl (by kernel_rfl) rfl (fun l J Jx hJ hJx hY => ?_)
  simp only [entry, Tryz.ntmps172, ofT, ofT1, ofTree, List.map_cons, List.map_nil, List.length_cons, List.length_nil, Nat.reduceAdd, Nat.reduceSub, List.replicate_succ, List.replicate_zero, List.cons_append, List.nil_append]
  refine zR (zc @eRows_len trivial) trivial trivial ?_
  refine AWp.loopS (α:=Nat) 30 (fun i=>[(0,.c (.yld l)),(1,.c (.rptr [.int .i64 g.n, .slice (eRows g.es)])),(3,.c (.int .i64 ((endsL (g.es.take i)).length : Int))),(7,.c (.slice (eRows g.es) .none)),(8,.c (.int .i64 (g.es.length : Int))),(9,.c (.int .i64 (i : Int)))]) (fun i=>[.ghost (J (endsL (g.es.take i)).length)]) (fun i=>i ≤ g.es.length) (fun i=>g.es.length - i) (0) (hk:=Weak.headL 1 30 [0, 1, 3, 7, 8, 9] zW) (h0:=?_) (round:=fun i hI=>?_)
  · exact Nat.zero_le _
  · by_cases hlt : i < g.es.length
    · have e1 : g.es[i]? = some g.es[i] := List.getElem?_eq_getElem hlt
      have e2 := eRows_get e1
      have hle := endsL_take_le g.es (i + 1)
      rw [endsL_take hlt, List.length_append, List.length_replicate] at hle
      have hmi := hm g.es[i] (List.getElem_mem hlt)
      repeat' (first|((first|(refine zT ?_;intro K' hK')|(refine zG ?_ ?_<;>(try refine zH ?_)<;>intro hguard<;>(try exact zX)<;>try intro K' hK'))<;>((try simp +contextual only [go_sem, eRows_len, Int.ofNat_lt, e2, Int.toNat_natCast]);(repeat' first|(with_reducible refine hK' _ _ ?_;clear hK' K')|exact zY|with_reducible refine And.intro ?_ ?_|(with_reducible intro hpath;try exact zP)|(refine hK' _ _ ?_;clear hK' K')|fail);try refine zS ?_))|(refine zE ?_;refine hK _ _ ?_;clear hK K)|(refine zN ?_;try refine zS ?_)|refine zA ?_|(refine zB ?_;intro K hK)|(refine zC ?_ ?_<;>(try refine zH ?_)<;>intro hcond<;>try exact zX)|fail)
      ·
        refine AWp.loopS (α:=Nat) 30 (fun k=>[(0,.c (.yld l)),(1,.c (.rptr [.int .i64 g.n, .slice (eRows g.es)])),(3,.c (.int .i64 (((endsL (g.es.take i)).length + k : Nat) : Int))),(5,.c (.ptr 1 0)),(7,.c (.slice (eRows g.es) .none)),(8,.c (.int .i64 (g.es.length : Int))),(9,.c (.int .i64 (i : Int))),(14,.c (.int .i64 g.es[i].m)),(15,.c (.int .i64 (k : Int)))]) (fun k=>[.ghost (J ((endsL (g.es.take i)).length + k)), .box [.int .i64 g.es[i].a, .int .i64 g.es[i].b, .int .i64 g.es[i].m]]) (fun k=>k ≤ g.es[i].m.toNat) (fun k=>g.es[i].m.toNat - k) (0) (hk:=Weak.headL 2 30 [0, 1, 3, 5, 7, 8, 9, 14, 15] zW) (h0:=?_) (round:=fun k hI=>?_)
        · exact Nat.zero_le _
        · by_cases hk : (k : Int) < g.es[i].m
          ·
            have hk2 : k < g.es[i].m.toNat := by omega
            have hget := itemsP_get (endsL_get hlt hk2)
            repeat' (first|((with_reducible refine AWp.seq (AWp.of_reg (id:=6) (AReg.pre 7 (fun K hK=>?_))));simp only [List.take_succ_cons,List.take_zero])|((with_reducible refine AWp.of_reg (id:=6) (AReg.pre 7 (fun K hK=>?_)));simp only [List.take_succ_cons,List.take_zero])|((first|(refine zT ?_;intro K' hK')|(refine zG ?_ ?_<;>(try refine zH ?_)<;>intro hguard<;>(try exact zX)<;>try intro K' hK'))<;>((try simp +contextual only [go_sem]);(repeat' first|(with_reducible refine hK' _ _ ?_;clear hK' K')|exact zY|with_reducible refine And.intro ?_ ?_|(with_reducible intro hpath;try exact zP)|(refine hK' _ _ ?_;clear hK' K')|fail);try refine zS ?_))|(refine zE ?_;refine hK _ _ ?_;clear hK K)|(refine zN ?_;try refine zS ?_)|refine zA ?_|(refine zB ?_;intro K hK)|(refine zC ?_ ?_<;>(try refine zH ?_)<;>intro hcond<;>try exact zX)|fail)
            simp only [List.drop_succ_cons, List.drop_zero]
            refine AReg.yield rfl rfl rfl (by rfl) (by with_unfolding_all rfl) (by simp [okBlk]) (hY _ _ hget) (hJ _) hJx ?_ ?_ <;> (try refine zS ?_) <;> refine AReg.rest (fun K hK => ?_)
            ·
              repeat' (first|((first|(refine zT ?_;intro K' hK')|(refine zG ?_ ?_<;>(try refine zH ?_)<;>intro hguard<;>(try exact zX)<;>try intro K' hK'))<;>((try simp +contextual only [go_sem]);(repeat' first|(with_reducible refine hK' _ _ ?_;clear hK' K')|exact zY|with_reducible refine And.intro ?_ ?_|(with_reducible intro hpath;try exact zP)|(refine hK' _ _ ?_;clear hK' K')|fail);try refine zS ?_))|(refine zE ?_;refine hK _ _ ?_;clear hK K)|(refine zN ?_;try refine zS ?_)|refine zA ?_|(refine zB ?_;intro K hK)|(refine zC ?_ ?_<;>(try refine zH ?_)<;>intro hcond<;>try exact zX)|fail)
              refine ⟨k + 1,Weak.headF 2 30 [0, 1, 3, 5, 7, 8, 9, 14, 15] (zc @Nat.add_assoc trivial) zW,?_,?_⟩
              · exact hk2
              · omega
            ·
              repeat' (first|((first|(refine zT ?_;intro K' hK')|(refine zG ?_ ?_<;>(try refine zH ?_)<;>intro hguard<;>(try exact zX)<;>try intro K' hK'))<;>((try simp +contextual only [go_sem]);(repeat' first|(with_reducible refine hK' _ _ ?_;clear hK' K')|exact zY|with_reducible refine And.intro ?_ ?_|(with_reducible intro hpath;try exact zP)|(refine hK' _ _ ?_;clear hK' K')|fail);try refine zS ?_))|(refine zE ?_;refine hK _ _ ?_;clear hK K)|(refine zN ?_;try refine zS ?_)|refine zA ?_|(refine zB ?_;intro K hK)|(refine zC ?_ ?_<;>(try refine zH ?_)<;>intro hcond<;>try exact zX)|fail)
              exact ⟨True.intro, _, .inr rfl⟩
          ·
            have ek : k = g.es[i].m.toNat := by omega
            refine zR (zc @e2 trivial) trivial trivial ?_
            refine ⟨i + 1,Weak.headN 1 30 [0, 1, 3, 7, 8, 9] zW (e1:=by first|rfl|(simp [mask,keepL, endsL_take hlt, ek];done)|(simp [mask,keepL, endsL_take hlt, ek]<;>simp_all<;>omega)) (e2:=by first|rfl|(simp [mask,keepL, endsL_take hlt, ek];done)|(simp [mask,keepL, endsL_take hlt, ek]<;>simp_all<;>omega)),?_,?_⟩
            · exact hlt
            · omega
    · have ei : i = g.es.length := by omega
      refine zR (zc @eRows_len (zc @Int.ofNat_lt trivial)) trivial trivial ?_
      exact ⟨True.intro, _, .inl (by rw [itemsP_len, ei, List.take_length])⟩
theorem singles_ok (g : G) : ACall Tryz.prog 144 [tG g] (.t (.fn 172 [.rptr [.int .i64 g.n, .slice (eRows g.es)]])) := by
  refine ACall.of_body Tryz.func144 rfl (by kernel_rfl) ?_
  simp only [entry, Tryz.ntmps144, tG]
  refine zU ?_
  refine zR trivial trivial trivial ?_
  simp [Rets, aret, Blk.cells, ty, Tryz.results144, ares, toT1, toT, borrow, borrow0, capCell, toTree0]
end Go.Proofs.YtfkegnhpihoncaaGreat
set_option linter.all false
namespace Go.Proofs.YtfkegnhpihoncaaGreat
open Go.Sp
set_option linter.unusedSimpArgs false
set_option linter.unusedVariables false
set_option maxHeartbeats 4000000
set_option maxRecDepth 100000
theorem itemsP_ps {l : List (Int × Int)} {n : Nat} (hn : n = 2) (k : Nat) (ts : List TVal) (h : (itemsP l)[k]? = some ts) : ts.length = n := by
  obtain ⟨p, _, rfl⟩ := itemsP_inv h; exact hn.symm
theorem take_snoc {α : Type} {l : List α} {k : Nat} {p : α} (h : l[k]? = some p) : l.take (k + 1) = l.take k ++ [p] := by
  obtain ⟨hk, rfl⟩ := List.getElem?_eq_some_iff.1 h
  exact List.take_succ_eq_append_getElem hk
theorem checkE_zero {n : Int} {es : List E} : ∀ {k : Nat}, k ≤ es.length → (checkE n es k = 0 ↔ ∀ i, es.length - k ≤ i → i < es.length → edgeE n es i = 0) := by
  intro k
  induction k with
  | zero => intro _; simp only [checkE, true_iff]; intro i h1 h2; omega
  | succ k ih =>
    intro hk
    simp only [checkE]
    by_cases h : edgeE n es (es.length - (k + 1)) = 0
    · rw [if_neg (by simp [h]), ih (by omega)]
      constructor
      · intro hx i h1 h2
        by_cases e : i = es.length - (k + 1)
        · subst e; exact h
        · exact hx i (by omega) h2
      · intro hx i h1 h2; exact hx i (by omega) h2
    · rw [if_pos h]
      constructor
      · intro hx; exact absurd hx h
      · intro hx; exact absurd (hx _ (Nat.le_refl _) (by omega)) h
def ltE (x y : E) : Prop := x.a < y.a ∨ (x.a = y.a ∧ x.b < y.b)
def okE (n : Int) (x : E) : Prop := 0 ≤ x.a ∧ x.a ≤ x.b ∧ x.b < n ∧ 1 ≤ x.m ∧ x.m ≤ 50
theorem edgeE_iff {n : Int} {es : List E} {i : Nat} (hi : i < es.length) : edgeE n es i = 0 ↔ okE n es[i] ∧ ∀ j (hj : j + 1 = i), ltE (es[j]'(by omega)) es[i] := by
  unfold edgeE okE ltE
  rw [List.getElem?_eq_getElem hi]
  simp only
  by_cases h1 : ¬ (0 ≤ es[i].a ∧ es[i].a < n) ∨ ¬ (0 ≤ es[i].b ∧ es[i].b < n) ∨ es[i].m < 1 ∨ 50 < es[i].m
  · rw [if_pos h1]; constructor
    · intro h; omega
    · rintro ⟨h, _⟩; omega
  · rw [if_neg h1]
    by_cases h2 : es[i].b < es[i].a
    · rw [if_pos h2]; constructor
      · intro h; omega
      · rintro ⟨h, _⟩; omega
    · rw [if_neg h2]
      cases i with
      | zero => simp only [true_iff]; exact ⟨by omega, fun j hj => by omega⟩
      | succ j =>
        have hj : j < es.length := by omega
        simp only [List.getElem?_eq_getElem hj]
        constructor
        · intro h
          split at h
          · omega
          · refine ⟨by omega, fun j' e => ?_⟩
            have : j' = j := by omega
            subst this; omega
        · rintro ⟨h, h3⟩
          have := h3 j rfl
          rw [if_neg (by omega)]
theorem checkG_zero {g : G} : checkG g = 0 ↔ (1 ≤ g.n ∧ g.n ≤ 12) ∧ (∀ e, e ∈ g.es → okE g.n e) ∧ g.es.Pairwise ltE := by
  unfold checkG
  by_cases h1 : g.n < 1 ∨ 12 < g.n
  · rw [if_pos h1]; constructor
    · intro h; omega
    · rintro ⟨h, _⟩; omega
  · rw [if_neg h1, checkE_zero (Nat.le_refl _), Nat.sub_self]
    constructor
    · intro h
      refine ⟨by omega, fun e he => ?_, ?_⟩
      · obtain ⟨i, hi, rfl⟩ := List.mem_iff_getElem.1 he
        exact ((edgeE_iff hi).1 (h i (Nat.zero_le _) hi)).1
      · rw [List.pairwise_iff_getElem]
        intro i j hi hj hij
        have step : ∀ d (hd : i + 1 + d < g.es.length), ltE g.es[i] g.es[i + 1 + d] := by
          intro d
          induction d with
          | zero => intro hd; exact ((edgeE_iff hd).1 (h _ (Nat.zero_le _) hd)).2 i (by omega)
          | succ d ih =>
            intro hd
            have h2 := ih (by omega)
            have h3 := ((edgeE_iff hd).1 (h _ (Nat.zero_le _) hd)).2 (i + 1 + d) (by omega)
            unfold ltE at *; omega
        have := step (j - (i + 1)) (by omega)
        have e : i + 1 + (j - (i + 1)) = j := by omega
        simp only [e] at this
        exact this
    · rintro ⟨_, h2, h3⟩ i _ hi
      rw [List.pairwise_iff_getElem] at h3
      exact (edgeE_iff hi).2 ⟨h2 _ (List.getElem_mem hi), fun j hj => h3 j i (by omega) hi (by omega)⟩
theorem endsL_len {es : List E} (h : ∀ e, e ∈ es → e.m ≤ 50) : (endsL es).length ≤ 50 * es.length := by
  induction es with
  | nil => simp [endsL]
  | cons x xs ih =>
    have h1 := h x (by simp)
    have h2 := ih fun e he => h e (by simp [he])
    have e : endsL (x :: xs) = endsL [x] ++ endsL xs := by rw [← endsL_append]; rfl
    rw [e, List.length_append, endsL_one, List.length_replicate, List.length_cons]; omega
structure Sm (g : G) : Prop where
  es : g.es.length < 2 ^ 40
  m : ∀ e, e ∈ g.es → e.m < 2 ^ 40
  s : (endsL g.es).length < 2 ^ 40
theorem sm_of {g : G} (hl : g.es.length < 2 ^ 30) (h : checkG g = 0) : Sm g := by
  obtain ⟨_, h2, _⟩ := checkG_zero.1 h
  refine ⟨by omega, fun e he => ?_, ?_⟩
  · have := h2 e he; unfold okE at this; omega
  · have := endsL_len (es := g.es) fun e he => by have := h2 e he; unfold okE at this; omega
    omega
def tpairs (l : List (Int × Int)) : TVal := .t (.slice (pRows l))
attribute [go_sem] tpairs
theorem Ends_ok (g : G) (hl : g.es.length < 2 ^ 30) : ACall Tryz.prog 108 [tG g] (if checkG g ≠ 0 then .tup [.t (.slice []), tint (checkG g)] else .tup [tpairs (endsL g.es), tint 0]) := by
  refine ACall.of_body Tryz.func108 rfl (by kernel_rfl) ?_
  simp only [entry, Tryz.ntmps108, tG]
  refine zU ?_
  repeat' (first|((first|(refine zT ?_;intro K' hK')|(refine zG ?_ ?_<;>(try refine zH ?_)<;>intro hguard<;>(try exact zX)<;>try intro K' hK'))<;>((try simp +contextual only [go_sem]);(repeat' first|(with_reducible refine hK' _ _ ?_;clear hK' K')|((with_reducible first|refine zL (c:=Check_ok g (by omega)) (q:=?_)|refine zK (singles_ok g) ?_);try simp +contextual only [go_sem])|exact zY|with_reducible refine And.intro ?_ ?_|(with_reducible intro hpath;try exact zP)|(refine hK' _ _ ?_;clear hK' K')|fail);try refine zS ?_))|(refine zE ?_;refine hK _ _ ?_;clear hK K)|(refine zN ?_;try refine zS ?_)|refine zA ?_|(refine zB ?_;intro K hK)|(refine zC ?_ ?_<;>(try refine zH ?_)<;>intro hcond<;>try exact zX)|fail)
  · rw [if_pos (by assumption)]
    simp [Rets, aret, Blk.cells, ty, Tryz.results108, ares, toT1, toT, borrow, borrow0, capCell, toTree0, tint]
  ·
    rw [if_neg (by omega)]
    have hs := sm_of hl (by omega)
    refine AWp.weak (Weak.openB 1 0 2 rfl rfl (by omega)) ?_
    simp only [List.set_cons_succ, List.set_cons_zero, List.length_cons, List.length_nil, List.length_append, Nat.reduceAdd, List.cons_append, List.nil_append]
    refine AWp.weak (Weak.head (m := 3) (by omega) ((fun t f => [f, t, f, f, f, t, f, f, f, f, f, f, f, f, t, f, f, f, f, f, f, f, f, f, f, f]) true false) (by first | rfl | simp [mask]) (by first | rfl | simp) (by (repeat' (first | exact valsIn_nil _ | refine valsIn_cons ?_ ?_ | refine cellsIn_cons ?_ ?_ | exact cellsIn_nil _ | exact True.intro | (show _ < _; omega) | (intro c hc; cases hc; done) | (intro c hc; simp only [List.mem_cons, List.not_mem_nil, or_false] at hc; subst hc; exact True.intro) | (intro c hc; simp only [List.mem_cons, List.not_mem_nil, or_false] at hc; rcases hc with rfl | rfl <;> exact True.intro)))) (by (repeat' (first | exact valsIn_nil _ | exact blksIn_nil _ | exact cellsIn_nil _ | refine And.intro ?_ ?_ | refine valsIn_cons ?_ ?_ | refine blksIn_cons ?_ ?_ | refine cellsIn_cons ?_ ?_ | exact True.intro | (show _ < _; omega) | exact cellsIn_map (fun _ => True.intro) | (intro c hc; cases hc; done) | (intro c hc; simp only [List.mem_cons, List.not_mem_nil, or_false] at hc; subst hc; exact True.intro) | (intro c hc; simp only [List.mem_cons, List.not_mem_nil, or_false] at hc; rcases hc with rfl | rfl <;> exact True.intro))))) (AWp.rangeFunc (fun k H => H = [.box [.int .i64 g.n, .slice (eRows g.es) .none], .box [.slice (pRows ((endsL g.es).take k)) (.chain 2)], .chain ((endsL g.es).take k).length 2] ∧ (True)) (fun _ _ => False) 3 rfl (singles1_ok g hs.s hs.es hs.m) (itemsP_ps rfl) (by omega) (by (repeat' (first | exact valsIn_nil _ | refine valsIn_cons ?_ ?_ | refine cellsIn_cons ?_ ?_ | exact cellsIn_nil _ | exact True.intro | (show _ < _; omega) | (intro c hc; cases hc; done) | (intro c hc; simp only [List.mem_cons, List.not_mem_nil, or_false] at hc; subst hc; exact True.intro) | (intro c hc; simp only [List.mem_cons, List.not_mem_nil, or_false] at hc; rcases hc with rfl | rfl <;> exact True.intro)))) (by rintro _ _ ⟨rfl, -⟩; simp) (fun _ _ h => h.elim) ?_ (fun l k ts H hts hI => ?_) (fun H hI => ?_) (fun e H h => h.elim))
    · exact ⟨rfl, trivial⟩
    · obtain ⟨rfl, -⟩ := hI
      obtain ⟨p, hp, rfl⟩ := itemsP_inv hts
      simp only [mask, setPs, List.zip_cons_cons, List.zip_nil_right, List.zip_nil_left, List.foldl_cons, List.foldl_nil, List.set_cons_succ, List.set_cons_zero, ofT, ofT1, ofTree, List.map_cons, List.map_nil, ofT, ofT1, toT, toT1, toTree0, tint, tbool, tpair, tG]
      have hk : k < (endsL g.es).length := (List.getElem?_eq_some_iff.1 hp).1
      have hkl : ((endsL g.es).take k).length = k := by rw [List.length_take]; omega
      have := hs.s
      refine zRc (zc @pRows_len (zc @pRows_snoc (zc @hkl trivial))) trivial @pRows_k' ?_
      refine ⟨⟨_, _⟩, Weak.head2 (m := 3) (by decide) ((fun t f => [f, f, f, f, f, f, f, f, f, f, f, f, f, f, f, f, f, f, f, f, f, f, f, f, f, f]) true false) rfl rfl zW, ?_, ?_⟩
      · simp [take_snoc hp, hkl]
      · trivial
    · obtain ⟨rfl, -⟩ := hI
      simp only [mask]
      refine zR trivial trivial trivial ?_
      simp [Rets, aret, Blk.cells, ty, Tryz.results108, ares, toT1, toT, borrow, borrow0, capCell, toTree0, tint, tpairs, itemsP_len]
end Go.Proofs.YtfkegnhpihoncaaGreat
set_option linter.all false
namespace Go.Proofs.YtfkegnhpihoncaaGreat
open Go.Sp Go.RowKit
set_option maxRecDepth 100000
theorem int3 (x y : Int) (w : World) : (Op.equalIn 9999 3 (.int .i64 x) (.int .i64 y)).run Tryz.prog w = .ok (x == y) w :=
  run_equalIn_int w 9998 3 _ _ x y (by simp only [ty] : Tryz.prog.underlying 3 = some (.int .i64))
theorem eqEdgeA (a b c a' b' c' : Int) (w : World) : (Op.equalIn 10000 76 (.agg #[.int .i64 a, .int .i64 b, .int .i64 c]) (.agg #[.int .i64 a', .int .i64 b', .int .i64 c'])).run Tryz.prog w = .ok (decide ([a,b,c] = [a',b',c'])) w := by
  rw [run_equalIn_agg w 9999 76 _ _ (by kernel_rfl) (by kernel_rfl)]
  have hA : tAgg Tryz.prog 3 = some false := by simp only [ty]
  simp [Program.fieldsOf, Tryz.underlying76, Op.eqFields, part, run_tAgg hA, Sem.run_bind, int3]
  by_cases h1 : a = a' <;> by_cases h2 : b = b' <;> by_cases h3 : c = c' <;> simp [*]
theorem eqEdge : EqInts Tryz.prog 76 3 := by
  refine ⟨fun xs ys w x y _ _ => ⟨run_eqGuard_agg w _ _ x y _ _ Tryz.eqGuardType76, run_eqGuard_agg w _ _ x y _ _ Tryz.eqGuardType76⟩, fun xs ys w h1 h2 => ?_⟩
  match xs, ys, h1, h2 with
  | [a, b, c], [a', b', c'], _, _ => exact ⟨by rw [run_eql_struct]; simp only [List.map_cons, List.map_nil]; rw [eqEdgeA]; rfl, by rw [run_neq_struct]; simp only [List.map_cons, List.map_nil]; rw [eqEdgeA]; rfl⟩
end Go.Proofs.YtfkegnhpihoncaaGreat
