/- A part of the proof. -/
import Derived.Test.YtdhfgihnoimoaaaLayerC
import Derived.Test.YtdhfgihnoimoaaaPart27
import Derived.Test.YtdhfgihnoimoaaaPart19
import Derived.Test.YtdhfgihnoimoaaaPart16
import Derived.Test.YtdhfgihnoimoaaaPart06
import Derived.Test.YtdhfgihnoimoaaaLayerE
set_option linter.all false
set_option maxHeartbeats 4000000
set_option maxRecDepth 100000
namespace Go.Proofs.Ytdhfgihnoimoaaa
open Go.Sp
theorem withinD_ok (k : Int) (h : -1048576 ≤ k ∧ k ≤ 1048576) : ACall Try.prog 68 [tint k] (tbool true) := by
 have h1 : k ≥ -1048576 := h.1
 have h2 : k ≤ 1048576 := h.2
 refine ACall.of_body Try.func68 rfl (by kernel_rfl) ?_
 simp only [entry, Try.ntmps68, tint]
 refine zU ?_
 refine zR (zc @h1 (zc @h2 trivial)) trivial trivial ?_
 simp [Rets, aret, Blk.cells, ty, Try.results68, ares, toT1, toT, borrow, borrow0, capCell, toTree0, tbool]
theorem verticesD_ok (n : Int) (h : 1 ≤ n ∧ n ≤ 12) : ACall Try.prog 85 [tint n] (tint 0) := by
 have h1 : ¬ (n < 1) := by omega
 have h2 : ¬ (n > 12) := by omega
 refine ACall.of_body Try.func85 rfl (by kernel_rfl) ?_
 simp only [entry, Try.ntmps85, tint]
 refine zU ?_
 refine zR (zc @h1 (zc @h2 trivial)) trivial trivial ?_
 simp [Rets, aret, Blk.cells, ty, Try.results85, ares, toT1, toT, borrow, borrow0, capCell, toTree0, tint]
theorem CheckD_ok (d : List Int) (n : Nat) (h1 : 1 ≤ n) (h12 : n ≤ 12) (hd : d.length = n) (hb : bndL 1048576 d) : ACall Try.prog 83 [tints d, tint n] (tint 0) := by
 have hV := verticesD_ok n (by omega)
 refine ACall.of_body Try.func83 rfl (by kernel_rfl) ?_
 simp only [entry, Try.ntmps83, tints, tint]
 refine zU ?_
 refine zJ (stop 7) (zc @iRows_len (zc @hd trivial)) (zc hV trivial) trivial trivial ?_
 refine AWp.loopS (α:=Nat) 27 (fun i=>[(17,.c (.slice (iRows d) .none)),(18,.c (.int .i64 (n : Int))),(19,.c (.int .i64 (i : Int)))]) (fun i=>[]) (fun i=>i ≤ n) (fun i=>n - i) (0) (hk:=Weak.headL 0 27 [17, 18, 19] (zV3 @iC_in @bC_inS @stX_in)) (h0:=?_) (round:=fun i hI=>?_)
 ·exact Nat.zero_le _
 ·have hi : i ≤ n := hI
  clear hI
  by_cases hil : i < n
  ·have hiI : (i : Int) < (n : Int) := by omega
   have hg := iRows_get (getD_get (d := d) (i := i) (by omega))
   have hw := withinD_ok (d.getD i 0) (hb i)
   generalize d.getD i 0 = x at *
   refine zR (zc @hiI (zc @hg (zc @iRows_len (zc @hd (zc @Nat.zero_add trivial))))) (zc hw trivial) trivial ?_
   refine ⟨i + 1,Weak.headN 0 27 [17, 18, 19] (zV3 @iC_in @bC_inS @stX_in),?_,?_⟩
   ·exact hil
   ·omega
  ·have hnl : ¬ (i : Int) < (n : Int) := by omega
   refine zR (zc @hnl trivial) trivial trivial ?_
   simp [Rets, aret, Blk.cells, ty, Try.results83, ares, toT1, toT, borrow, borrow0, capCell, toTree0, tint]
def normS (s : List Int) (c : Int) : Nat → List Int
 | 0 => s
 | i + 1 => (normS s c i).set i ((normS s c i).getD i 0 - c)
theorem normS_len (s : List Int) (c : Int) : ∀ i, (normS s c i).length = s.length
 | 0 => rfl
 | i + 1 => by unfold normS; rw [List.length_set]; exact normS_len s c i
theorem normS_get (s : List Int) (c : Int) (v : Nat) : ∀ i, i ≤ s.length → (normS s c i).getD v 0 = if v < i then s.getD v 0 - c else s.getD v 0
 | 0, _ => by rw [if_neg (by omega)]; rfl
 | i + 1, hi => by
  unfold normS
  rw [getD_set_int _ _ _ _ (by rw [normS_len]; omega), normS_get s c v i (by omega), normS_get s c i i (by omega), if_neg (Nat.lt_irrefl i)]
  by_cases e : v = i
  ·subst e; rw [if_pos rfl, if_pos (by omega)]
  ·rw [if_neg e]
   by_cases h : v < i
   ·rw [if_pos h, if_pos (by omega)]
   ·rw [if_neg h, if_neg (by omega)]
theorem result_ok (n q : Nat) (es : List E) (d s : List Int) (h1 : 1 ≤ n) (h12 : n ≤ 12) (hq : q < n) (hd : d.length = n) (hs : s.length = n) (hdb : bndL 1048576 d) (hsb : bndL (2 ^ 40) s) (hsc : bndL 1048576 (normS s (s.getD q 0) n)) :
  ACallH Try.prog 91 [.box [.int .i64 (n : Int), .slice (eRows es) .none], .ro [.int .i64 (n : Int), .slice (eRows es)], .box (iC d), .box (iC s), .roC [.tree (.int .i64 (n : Int)), .tree (.slice (eRows es)), .tree (.int .i64 (q : Int)), .ref 2 1 0 n n, .ref 3 1 0 n n, .tree (.int .i64 0)]] [.c (.ptr 4 0)] [.box [.int .i64 (n : Int), .slice (eRows es) .none], .ro [.int .i64 (n : Int), .slice (eRows es)], .box (iC d), .box (iC (normS s (s.getD q 0) n)), .roC [.tree (.int .i64 (n : Int)), .tree (.slice (eRows es)), .tree (.int .i64 (q : Int)), .ref 2 1 0 n n, .ref 3 1 0 n n, .tree (.int .i64 0)]] (.tup [.c (.ref 2 1 0 n n), .c (.ref 3 1 0 n n), .c (.int .i64 0)]) := by
 have hqI : (q : Int) < (n : Int) := by omega
 have hgq := iC_get (getD_get (d := s) (i := q) (by omega))
 have hqb := hsb q
 have hC1 := CheckD_ok d n h1 h12 hd hdb
 have hC2 := CheckD_ok (normS s (s.getD q 0) n) n h1 h12 (by rw [normS_len]; exact hs) hsc
 clear hsc hdb
 have hsl : ∀ i, i ≤ n → ∀ v, (normS s (s.getD q 0) i).getD v 0 = if v < i then s.getD v 0 - s.getD q 0 else s.getD v 0 := fun i hi v => normS_get s _ v i (by omega)
 have hnl := fun i => normS_len s (s.getD q 0) i
 rw [hs] at hnl
 have hn0 : normS s (s.getD q 0) 0 = s := rfl
 have hns : ∀ i, (normS s (s.getD q 0) i).set i ((normS s (s.getD q 0) i).getD i 0 - s.getD q 0) = normS s (s.getD q 0) (i + 1) := fun i => rfl
 generalize s.getD q 0 = c at *
 refine ACallH.of_body Try.func91 rfl (by kernel_rfl) ?_
 simp only [entry, Try.ntmps91, List.length_cons, List.length_nil, Nat.reduceAdd, Nat.reduceSub, List.replicate_succ, List.replicate_zero, List.cons_append, List.nil_append]
 refine zJ (stop 5) (zc @hgq (zc @hqI (zc @iC_len (zc @hs (zc @Nat.zero_add trivial))))) trivial trivial trivial ?_
 refine AWp.loopS (α:=Nat) 77 (fun i=>[(0,.c (.ptr 4 0)),(5,.c (.int .i64 c)),(30,.c (.int .i64 (n : Int))),(31,.c (.int .i64 (i : Int)))]) (fun i=>[.box [.int .i64 (n : Int), .slice (eRows es) .none], .ro [.int .i64 (n : Int), .slice (eRows es)], .box (iC d), .box (iC (normS s c i)), .roC [.tree (.int .i64 (n : Int)), .tree (.slice (eRows es)), .tree (.int .i64 (q : Int)), .ref 2 1 0 n n, .ref 3 1 0 n n, .tree (.int .i64 0)]]) (fun i=>i ≤ n) (fun i=>n - i) (0) (hk:=Weak.headL 5 77 [0, 5, 30, 31] (zV3 @iC_in @bC_inS @stX_in)) (h0:=?_) (round:=fun i hI=>?_)
 ·exact Nat.zero_le _
 ·have hi : i ≤ n := hI
  clear hI
  by_cases hil : i < n
  ·have hiI : (i : Int) < (n : Int) := by omega
   have hg := iC_get (getD_get (d := normS s c i) (i := i) (by rw [hnl]; exact hil))
   have e1 := hsl i hi i
   rw [if_neg (Nat.lt_irrefl i)] at e1
   have hb := hsb i
   have hst := iC_set (normS s c i) i ((normS s c i).getD i 0 - c)
   rw [hns] at hst
   rw [e1] at hg hst
   have hl := hnl i
   clear hC1 hC2 hsl hns hsb hnl e1
   generalize hn1 : normS s c (i + 1) = N1 at *
   generalize hn2 : normS s c i = N0 at *
   generalize s.getD i 0 = x at *
   refine zR (zc @hiI (zc @hg (zc @hst (zc @iC_len (zc @hl (zc @Nat.zero_add trivial)))))) trivial trivial ?_
   refine ⟨i + 1,Weak.headF 5 77 [0, 5, 30, 31] (zc @hn1 trivial) (zV3 @iC_in @bC_inS @stX_in),?_,?_⟩
   ·exact hil
   ·omega
  ·have hnl2 : ¬ (i : Int) < (n : Int) := by omega
   have ei : i = n := by omega
   rw [ei]
   rw [ei] at hnl2
   have hl := hnl n
   clear hsl hns hsb hnl
   generalize normS s c n = N at *
   have hbi : ∀ (H : List Blk) (k : IntKind) (x : Int), borrow H (.int k x) = some (.int k x) := fun _ _ _ => rfl
   have hb2 : borrow [.box [.int .i64 (n : Int), .slice (eRows es) .none], .ro [.int .i64 (n : Int), .slice (eRows es)], .box (iC d), .box (iC N), .roC [.tree (.int .i64 (n : Int)), .tree (.slice (eRows es)), .tree (.int .i64 (q : Int)), .ref 2 1 0 n n, .ref 3 1 0 n n, .tree (.int .i64 0)]] (.ref 2 1 0 n n) = some (.slice (iRows d)) := iC_ref hd rfl
   have hb3 : borrow [.box [.int .i64 (n : Int), .slice (eRows es) .none], .ro [.int .i64 (n : Int), .slice (eRows es)], .box (iC d), .box (iC N), .roC [.tree (.int .i64 (n : Int)), .tree (.slice (eRows es)), .tree (.int .i64 (q : Int)), .ref 2 1 0 n n, .ref 3 1 0 n n, .tree (.int .i64 0)]] (.ref 3 1 0 n n) = some (.slice (iRows N)) := iC_ref hl rfl
   have hD1 : ACallH Try.prog 83 [.box [.int .i64 (n : Int), .slice (eRows es) .none], .ro [.int .i64 (n : Int), .slice (eRows es)], .box (iC d), .box (iC N), .roC [.tree (.int .i64 (n : Int)), .tree (.slice (eRows es)), .tree (.int .i64 (q : Int)), .ref 2 1 0 n n, .ref 3 1 0 n n, .tree (.int .i64 0)]] [.c (.ref 2 1 0 n n), .c (.int .i64 (n : Int))] [.box [.int .i64 (n : Int), .slice (eRows es) .none], .ro [.int .i64 (n : Int), .slice (eRows es)], .box (iC d), .box (iC N), .roC [.tree (.int .i64 (n : Int)), .tree (.slice (eRows es)), .tree (.int .i64 (q : Int)), .ref 2 1 0 n n, .ref 3 1 0 n n, .tree (.int .i64 0)]] (.c (.int .i64 0)) := hC1.hb (by simp [toT, toT1, hb2, hbi, tints, tint]) rfl
   have hD2 : ACallH Try.prog 83 [.box [.int .i64 (n : Int), .slice (eRows es) .none], .ro [.int .i64 (n : Int), .slice (eRows es)], .box (iC d), .box (iC N), .roC [.tree (.int .i64 (n : Int)), .tree (.slice (eRows es)), .tree (.int .i64 (q : Int)), .ref 2 1 0 n n, .ref 3 1 0 n n, .tree (.int .i64 0)]] [.c (.ref 3 1 0 n n), .c (.int .i64 (n : Int))] [.box [.int .i64 (n : Int), .slice (eRows es) .none], .ro [.int .i64 (n : Int), .slice (eRows es)], .box (iC d), .box (iC N), .roC [.tree (.int .i64 (n : Int)), .tree (.slice (eRows es)), .tree (.int .i64 (q : Int)), .ref 2 1 0 n n, .ref 3 1 0 n n, .tree (.int .i64 0)]] (.c (.int .i64 0)) := hC2.hb (by simp [toT, toT1, hb3, hbi, tints, tint]) rfl
   refine zJ trivial (zc @hnl2 (zc @iC_len (zc @hl trivial))) trivial (zc hD1 (zc hD2 trivial)) trivial ?_
   simp [RetsH, aretH, ares, noTup, Try.results91]
theorem CloneV_ok (l : List Int) (hne : l ≠ []) (hl : l.length < 2 ^ 30) : ACallN Try.prog 104 [tints l] 1 (iRows l) := by
 have hrn : iRows l ≠ [] := by simpa [iRows] using hne
 have hrl : (iRows l).length = l.length := iRows_len l
 have hrk : ∀ r, r ∈ iRows l → r.length = 1 := fun r hr => iRows_k' hr
 have hrf : ∀ r, r ∈ iRows l → flatRow r = true := fun r hr => by obtain ⟨x, _, rfl⟩ := List.mem_map.1 hr; rfl
 refine ACallN.of_body Try.func104 rfl (by kernel_rfl) hrk (by decide) hrn hrf ?_
 simp only [entry, Try.ntmps104, tints, ofT, ofT1, ofTree, List.map_cons, List.map_nil, List.length_cons, List.length_nil, Nat.reduceAdd, Nat.reduceSub, List.replicate_succ, List.replicate_zero, List.cons_append, List.nil_append]
 generalize iRows l = rows at *
 repeat' (first|((first|(refine zT ?_;intro K' hK')|(refine zG ?_ ?_<;>(try refine zH ?_)<;>intro hguard<;>(try exact zX)<;>try intro K' hK'))<;>((try simp +contextual only [go_sem, hrl, chunks, List.range, List.range.loop]);(repeat' first|(with_reducible refine hK' _ _ ?_;clear hK' K')|(exact hrn)|(with_reducible exact hrk _ (by assumption))|(exact .inr True.intro)|exact zY|with_reducible refine And.intro ?_ ?_|(with_reducible intro hpath;try exact zP)|(refine hK' _ _ ?_;clear hK' K')|fail);try refine zS ?_))|(refine zE ?_;refine hK _ _ ?_;clear hK K)|(refine zN ?_;try refine zS ?_)|refine zA ?_|(refine zB ?_;intro K hK)|(refine zC ?_ ?_<;>(try refine zH ?_)<;>intro hcond<;>try exact zX)|fail)
 simp [RetsN, Try.results104]
theorem begin_ok (n q : Nat) (es : List E) (d : List Int) (h1 : 1 ≤ n) (h12 : n ≤ 12) (hd : d.length = n) :
  ACallH Try.prog 88 [.box [.int .i64 (n : Int), .slice (eRows es) .none]] [ofT (tG ⟨(n : Int), es⟩), .c (.int .i64 (q : Int)), .c (.slice (iRows d) .none)] [.box [.int .i64 (n : Int), .slice (eRows es) .none], .ro [.int .i64 (n : Int), .slice (eRows es)], .box (iC d), .box (iC (List.replicate n 0)), .box [.int .i64 (n : Int), .slice (eRows es) .none, .int .i64 (q : Int), .ref 2 1 0 n n, .ref 3 1 0 n n, .int .i64 0]] (.c (.ptr 4 0)) := by
 have hdn : d ≠ [] := by intro e; rw [e] at hd; simp at hd; omega
 have hC : ACallH Try.prog 104 [.box [.int .i64 (n : Int), .slice (eRows es) .none], .ro [.int .i64 (n : Int), .slice (eRows es)]] [.c (.slice (iRows d) .none)] [.box [.int .i64 (n : Int), .slice (eRows es) .none], .ro [.int .i64 (n : Int), .slice (eRows es)], .box (iC d)] (.c (.ref 2 1 0 n n)) := by
  have := (CloneV_ok d hdn (by omega)).h (H := [.box [.int .i64 (n : Int), .slice (eRows es) .none], .ro [.int .i64 (n : Int), .slice (eRows es)]]) (args := [.c (.slice (iRows d) .none)]) (by with_unfolding_all rfl)
  rw [flat_iRows, iRows_len, hd] at this
  exact this
 have hC2 : ACallH Try.prog 104 [.box [.int .i64 (n : Int), .slice (eRows es) .none], .ro [.int .i64 (n : Int), .slice (eRows es)], .box (iC (List.replicate n 0))] [.c (.slice (iRows d) .none)] [.box [.int .i64 (n : Int), .slice (eRows es) .none], .ro [.int .i64 (n : Int), .slice (eRows es)], .box (iC (List.replicate n 0)), .box (iC d)] (.c (.ref 3 1 0 n n)) := by
  have := (CloneV_ok d hdn (by omega)).h (H := [.box [.int .i64 (n : Int), .slice (eRows es) .none], .ro [.int .i64 (n : Int), .slice (eRows es)], .box (iC (List.replicate n 0))]) (args := [.c (.slice (iRows d) .none)]) (by with_unfolding_all rfl)
  rw [flat_iRows, iRows_len, hd] at this
  exact this
 have hsw : ∀ l : List Int, (iC l).mapM (swCell 2 3) = some (iC l) := fun l => by
  induction l with
  | nil => rfl
  | cons x l ih =>
   unfold iC at ih ⊢
   rw [List.map_cons, List.mapM_cons, ih]; rfl
 simp only [tG, ofT, ofT1, ofTree, List.map_cons, List.map_nil]
 refine ACallE.swapTo (H2 := [.box [.int .i64 (n : Int), .slice (eRows es) .none], .ro [.int .i64 (n : Int), .slice (eRows es)], .box (iC (List.replicate n 0)), .box (iC d), .box [.int .i64 (n : Int), .slice (eRows es) .none, .int .i64 (q : Int), .ref 3 1 0 n n, .ref 2 1 0 n n, .int .i64 0]]) (c2 := .ptr 4 0) ?_ 2 3 (by show 1 ≤ 2; decide) (by show 1 ≤ 3; decide) (by show 2 < 5; decide) (by show 3 < 5; decide) rfl (fun id hid => ?_) rfl
 ·refine ACallE.of_body Try.func88 rfl (by kernel_rfl) ?_
  simp only [entry, Try.ntmps88, List.length_cons, List.length_nil, Nat.reduceAdd, Nat.reduceSub, List.replicate_succ, List.replicate_zero, List.cons_append, List.nil_append]
  refine zJ (stop 1) trivial trivial trivial trivial ?_
  refine AWp.freezeP 3 1 rfl rfl (ts := [.int .i64 (n : Int), .slice (eRows es)]) rfl ?_
  simp only [List.set_cons_succ, List.set_cons_zero]
  refine L.AWp.seq_draw2c (wd := true) 1 3 3 6 (by decide +kernel) (fun K hK => ?_) (fun K hK => ?_)
  ·
   repeat' (first|((refine L.lT ?_;intro K' hK')<;>((try simp +contextual only [go_sem, made_ints, Int.toNat_natCast, Nat.mul_one, Nat.zero_add]);(repeat' first|(with_reducible refine hK' _ _ ?_;clear hK' K')|((with_reducible first|refine ⟨_,_,hC,?_⟩|refine ⟨_,hC,?_⟩);try simp +contextual only [go_sem, made_ints, Int.toNat_natCast, Nat.mul_one, Nat.zero_add])|exact zY|with_reducible refine And.intro ?_ ?_|(with_reducible intro hpath;try exact zP)|(refine hK' _ _ ?_;clear hK' K')|fail);try refine zS ?_))|(refine L.lE ?_;refine hK _ _ ?_;clear hK K)|refine zA ?_|fail)
   simp [RetsE, aretH, ares, noTup, Try.results88]
  ·
   simp only [L.cswL, L.bswL, List.take_succ_cons, List.take_zero, List.drop_succ_cons, List.drop_zero, List.cons_append, List.nil_append, Nat.reduceMul]
   repeat' (first|((refine L.lT ?_;intro K' hK')<;>((try simp +contextual only [go_sem, made_ints, Int.toNat_natCast, Nat.mul_one, Nat.zero_add]);(repeat' first|(with_reducible refine hK' _ _ ?_;clear hK' K')|((with_reducible first|refine ⟨_,_,hC2,?_⟩|refine ⟨_,hC2,?_⟩);try simp +contextual only [go_sem, made_ints, Int.toNat_natCast, Nat.mul_one, Nat.zero_add])|exact zY|with_reducible refine And.intro ?_ ?_|(with_reducible intro hpath;try exact zP)|(refine hK' _ _ ?_;clear hK' K')|fail);try refine zS ?_))|(refine L.lE ?_;refine hK _ _ ?_;clear hK K)|refine zA ?_|fail)
   simp [RetsE, aretH, ares, noTup, Try.results88]
 ·simp only [List.length_cons, List.length_nil, Nat.reduceAdd] at hid
  match id, hid with
  | 0, _ => exact .inl ⟨_, _, rfl, rfl, rfl⟩
  | 1, _ => exact .inr ⟨_, rfl, rfl⟩
  | 2, _ => exact .inl ⟨_, _, rfl, hsw _, rfl⟩
  | 3, _ => exact .inl ⟨_, _, rfl, hsw _, rfl⟩
  | 4, _ => exact .inl ⟨_, _, rfl, rfl, rfl⟩
theorem dgiven_ok (n q : Nat) (es : List E) (d : List Int) (hq : q < n) (hd : d.length = n) (h1 : 1 ≤ n) (h12 : n ≤ 12) (hl : es.length < 2 ^ 30) (hc : checkG ⟨(n : Int), es⟩ = 0) (hcc : connB ⟨(n : Int), es⟩ = true) (hb : bndL 1048576 d) : ACall Try.prog 87 [tG ⟨(n : Int), es⟩, tint q, tints d] (tint 0) := by
 have hC : ACall Try.prog 60 [tG ⟨(n : Int), es⟩] (.tup [tbool true, tint 0]) := by
  have := Connected_ok ⟨(n : Int), es⟩ hl
  rw [hc, hcc] at this
  exact this
 have hChk := CheckD_ok d n h1 h12 hd hb
 have h0 : ¬ ((q : Int) < 0) := by omega
 have h2 : ¬ ((q : Int) ≥ (n : Int)) := by omega
 refine ACall.of_body Try.func87 rfl (by kernel_rfl) ?_
 simp only [entry, Try.ntmps87, tG, tint, tints]
 refine zU ?_
 refine zR (zc @h0 (zc @h2 trivial)) (zc hC (zc hChk trivial)) trivial ?_
 simp [Rets, aret, Blk.cells, ty, Try.results87, ares, toT1, toT, borrow, borrow0, capCell, toTree0, tint]
end Go.Proofs.Ytdhfgihnoimoaaa
