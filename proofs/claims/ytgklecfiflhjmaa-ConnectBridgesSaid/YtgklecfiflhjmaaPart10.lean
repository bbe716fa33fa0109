/- A part of the proof. -/
import Derived.Test.YtgklecfiflhjmaaPart09
import Derived.Test.YtgklecfiflhjmaaPart06
import Derived.Test.YtgklecfiflhjmaaLayerC
import Derived.Test.YtgklecfiflhjmaaPart05
import Derived.Test.YtgklecfiflhjmaaLayerD
import Derived.Test.YtgklecfiflhjmaaPart07
import Derived.Test.YtgklecfiflhjmaaPart08
set_option linter.all false
set_option maxHeartbeats 4000000
set_option maxRecDepth 100000
namespace Go.Proofs.Ytgklecfiflhjmaa
open Go.Sp
structure MovOk (k : Nat) (es : List E) : Prop where
 d : distinctE es
 len : es.length ≤ k
 r : ∀ e, e ∈ es → (0 ≤ e.a ∧ e.a < 12) ∧ (0 ≤ e.b ∧ e.b < 12)
def itemsI (l : List Int) : List (List TVal) := l.map fun x => [tint x]
theorem itemsI_len (l : List Int) : (itemsI l).length = l.length := by simp [itemsI]
theorem itemsI_get {l : List Int} {i : Nat} {x : Int} (h : l[i]? = some x) : (itemsI l)[i]? = some [tint x] := by simp [itemsI, h]
theorem itemsI_inv {l : List Int} {i : Nat} {ts : List TVal} (h : (itemsI l)[i]? = some ts) : ∃ x, l[i]? = some x ∧ ts = [tint x] := by
 unfold itemsI at h
 rw [List.getElem?_map] at h
 cases hx : l[i]? with
 | none => rw [hx] at h; cases h
 | some x => rw [hx] at h; simp at h; exact ⟨x, rfl, h.symm⟩
theorem itemsI_ps {l : List Int} {n : Nat} (hn : n = 1) (k : Nat) (ts : List TVal) (h : (itemsI l)[k]? = some ts) : ts.length = n := by
 obtain ⟨p, _, rfl⟩ := itemsI_inv h; exact hn.symm
theorem Values1_ok (L : List Int) (hL : L.length < 2 ^ 30) : AIter Try.prog 89 [.rptr [.slice (iRows L)]] (itemsI L) := by
 refine AIter.of_body Try.func89 rfl (by kernel_rfl) rfl (fun l J Jx hJ hJx hY => ?_)
 simp only [entry, Try.ntmps89, ofT, ofT1, ofTree, List.map_cons, List.map_nil, List.length_cons, List.length_nil, Nat.reduceAdd, Nat.reduceSub, List.replicate_succ, List.replicate_zero, List.cons_append, List.nil_append]
 refine zR (zc @iRows_len trivial) trivial trivial ?_
 refine AWp.loopS (α:=Nat) 16 (fun i=>[(0,.c (.yld l)),(5,.c (.slice (iRows L) .none)),(6,.c (.int .i64 (L.length : Int))),(7,.c (.int .i64 (i : Int)))]) (fun i=>[.ghost (J i)]) (fun i=>i ≤ L.length) (fun i=>L.length - i) (0) (hk:=Weak.headL 1 16 [0, 5, 6, 7] zW) (h0:=?_) (round:=fun i hI=>?_)
 ·exact Nat.zero_le _
 ·by_cases hlt : i < L.length
  ·have hltI : (i : Int) < L.length := by omega
   have e0 := List.getElem?_eq_getElem hlt
   have e1 := iRows_get e0
   have hget := itemsI_get e0
   generalize L[i] = x at *
   repeat' (first|((with_reducible refine AWp.seq (AWp.of_reg (id:=3) (AReg.pre 2 (fun K hK=>?_))));simp only [List.take_succ_cons,List.take_zero])|((with_reducible refine AWp.of_reg (id:=3) (AReg.pre 2 (fun K hK=>?_)));simp only [List.take_succ_cons,List.take_zero])|((first|(refine zT ?_;intro K' hK')|(refine zG ?_ ?_<;>(try refine zH ?_)<;>intro hguard<;>(try exact zX)<;>try intro K' hK'))<;>((try simp +contextual only [go_sem, hltI, e1, Int.toNat_natCast]);(repeat' first|(with_reducible refine hK' _ _ ?_;clear hK' K')|exact zY|with_reducible refine And.intro ?_ ?_|(with_reducible intro hpath;try exact zP)|(refine hK' _ _ ?_;clear hK' K')|fail);try refine zS ?_))|(refine zE ?_;refine hK _ _ ?_;clear hK K)|(refine zN ?_;try refine zS ?_)|refine zA ?_|(refine zB ?_;intro K hK)|(refine zC ?_ ?_<;>(try refine zH ?_)<;>intro hcond<;>try exact zX)|fail)
   simp only [List.drop_succ_cons, List.drop_zero]
   refine AReg.yield rfl rfl rfl (by rfl) (by with_unfolding_all rfl) (by simp [okBlk]) (hY _ _ hget) (hJ _) hJx ?_ ?_ <;> (try refine zS ?_) <;> refine AReg.rest (fun K hK => ?_)
   ·
    repeat' (first|((first|(refine zT ?_;intro K' hK')|(refine zG ?_ ?_<;>(try refine zH ?_)<;>intro hguard<;>(try exact zX)<;>try intro K' hK'))<;>((try simp +contextual only [go_sem]);(repeat' first|(with_reducible refine hK' _ _ ?_;clear hK' K')|exact zY|with_reducible refine And.intro ?_ ?_|(with_reducible intro hpath;try exact zP)|(refine hK' _ _ ?_;clear hK' K')|fail);try refine zS ?_))|(refine zE ?_;refine hK _ _ ?_;clear hK K)|(refine zN ?_;try refine zS ?_)|refine zA ?_|(refine zB ?_;intro K hK)|(refine zC ?_ ?_<;>(try refine zH ?_)<;>intro hcond<;>try exact zX)|fail)
    refine ⟨i + 1,Weak.headN 1 16 [0, 5, 6, 7] zW,?_,?_⟩
    ·exact hlt
    ·omega
   ·
    repeat' (first|((first|(refine zT ?_;intro K' hK')|(refine zG ?_ ?_<;>(try refine zH ?_)<;>intro hguard<;>(try exact zX)<;>try intro K' hK'))<;>((try simp +contextual only [go_sem]);(repeat' first|(with_reducible refine hK' _ _ ?_;clear hK' K')|exact zY|with_reducible refine And.intro ?_ ?_|(with_reducible intro hpath;try exact zP)|(refine hK' _ _ ?_;clear hK' K')|fail);try refine zS ?_))|(refine zE ?_;refine hK _ _ ?_;clear hK K)|(refine zN ?_;try refine zS ?_)|refine zA ?_|(refine zB ?_;intro K hK)|(refine zC ?_ ?_<;>(try refine zH ?_)<;>intro hcond<;>try exact zX)|fail)
    exact ⟨True.intro, _, .inr rfl⟩
  ·have ei : i = L.length := by omega
   have hnl : ¬ ((i : Int) < L.length) := by omega
   refine zR (zc @hnl trivial) trivial trivial ?_
   exact ⟨True.intro, _, .inl (by rw [itemsI_len, ei])⟩
theorem AppendSeq_ok (L : List Int) (hne : L ≠ []) (hL : L.length < 2 ^ 30) : ACallN Try.prog 95 [.t (.raw (.slice none 0 0)), .t (.fn 89 [.rptr [.slice (iRows L)]])] 1 (iRows L) := by
 have hrn : iRows L ≠ [] := by simpa [iRows] using hne
 have hrk : ∀ r, r ∈ iRows L → r.length = 1 := fun r hr => iRows_k' hr
 have hrf : ∀ r, r ∈ iRows L → flatRow r = true := fun r hr => by obtain ⟨x, _, rfl⟩ := List.mem_map.1 hr; rfl
 have hv := Values1_ok L hL
 have hiL := itemsI_len L
 have hinv := fun (i : Nat) (ts : List TVal) (h : (itemsI L)[i]? = some ts) => itemsI_inv h
 have hps := fun (k : Nat) (ts : List TVal) (h : (itemsI L)[k]? = some ts) => itemsI_ps (n := 1) rfl k ts h
 generalize itemsI L = IT at *
 refine ACallN.of_body Try.func95 rfl (by kernel_rfl) hrk (by decide) hrn hrf ?_
 simp only [entry, Try.ntmps95, tints, iRows, List.map_nil, ofT, ofT1, ofTree, List.map_cons, List.length_cons, List.length_nil, Nat.reduceAdd, Nat.reduceSub, List.replicate_succ, List.replicate_zero, List.cons_append, List.nil_append]
 refine zR trivial trivial trivial ?_
 refine AWp.weak (Weak.cell 0 0 .nils rfl rfl (Nat.zero_le _) (fun ι σ w v _ h => h.1)) ?_
 simp only [List.set_cons_zero]
 refine AWp.weak (Weak.openB 0 0 1 rfl rfl (by omega)) ?_
 simp only [List.set_cons_succ, List.set_cons_zero, List.length_cons, List.length_nil, List.length_append, Nat.reduceAdd, List.cons_append, List.nil_append]
 refine AWp.weak (Weak.head (m := 2) (by omega) ((fun t f => [f, f, t, f, f, f, t, f, f, f, f, f, f]) true false) (by first | rfl | simp [mask]) (by first | rfl | simp) (by (repeat' (first | exact valsIn_nil _ | refine valsIn_cons ?_ ?_ | refine cellsIn_cons ?_ ?_ | exact cellsIn_nil _ | exact True.intro | (show _ < _; omega) | (intro c hc; cases hc; done) | (intro c hc; simp only [List.mem_cons, List.not_mem_nil, or_false] at hc; subst hc; exact True.intro) | (intro c hc; simp only [List.mem_cons, List.not_mem_nil, or_false] at hc; rcases hc with rfl | rfl <;> exact True.intro)))) (by (repeat' (first | exact valsIn_nil _ | exact blksIn_nil _ | exact cellsIn_nil _ | refine And.intro ?_ ?_ | refine valsIn_cons ?_ ?_ | refine blksIn_cons ?_ ?_ | refine cellsIn_cons ?_ ?_ | exact True.intro | (show _ < _; omega) | exact cellsIn_map (fun _ => True.intro) | (intro c hc; cases hc; done) | (intro c hc; simp only [List.mem_cons, List.not_mem_nil, or_false] at hc; subst hc; exact True.intro) | (intro c hc; simp only [List.mem_cons, List.not_mem_nil, or_false] at hc; rcases hc with rfl | rfl <;> exact True.intro))))) (AWp.rangeFunc (fun k H => H = [.box [.slice (iRows (L.take k)) (.chain 1)], .chain (L.take k).length 1] ∧ (True)) (fun _ _ => False) 2 rfl (hv) (hps) (by omega) (by (repeat' (first | exact valsIn_nil _ | refine valsIn_cons ?_ ?_ | refine cellsIn_cons ?_ ?_ | exact cellsIn_nil _ | exact True.intro | (show _ < _; omega) | (intro c hc; cases hc; done) | (intro c hc; simp only [List.mem_cons, List.not_mem_nil, or_false] at hc; subst hc; exact True.intro) | (intro c hc; simp only [List.mem_cons, List.not_mem_nil, or_false] at hc; rcases hc with rfl | rfl <;> exact True.intro)))) (by rintro _ _ ⟨rfl, -⟩; simp) (fun _ _ h => h.elim) ?_ (fun l k ts H hts hI => ?_) (fun H hI => ?_) (fun e H h => h.elim))
 ·exact ⟨rfl, trivial⟩
 ·obtain ⟨rfl, -⟩ := hI
  obtain ⟨x, hx, rfl⟩ := hinv _ _ hts
  have hk : k < L.length := (List.getElem?_eq_some_iff.1 hx).1
  have htl : (L.take k).length = k := by rw [List.length_take]; omega
  have hsn := take_snoc hx
  have hrs := iRows_snoc (L.take k) x
  rw [← hsn] at hrs
  have htl1 : (L.take (k + 1)).length = k + 1 := by rw [List.length_take]; omega
  simp only [mask, setPs, List.zip_cons_cons, List.zip_nil_right, List.zip_nil_left, List.foldl_cons, List.foldl_nil, List.set_cons_succ, List.set_cons_zero, ofT, ofT1, ofTree, List.map_cons, List.map_nil, ofT, ofT1, toT, toT1, toTree0, tint, tbool, tpair, tG, tpairs, tints]
  refine zRc (zc @iRows_len (zc @htl (zc @hrs trivial))) trivial @iRows_k' ?_
  refine ⟨⟨_, _⟩, Weak.head2 (m := 2) (by decide) ((fun t f => [f, f, f, f, f, f, f, f, f, f, f, f, f]) true false) rfl rfl zW, ?_, ?_⟩
  ·simp [htl1]
  ·trivial
 ·obtain ⟨rfl, -⟩ := hI
  rw [hiL, List.take_length]
  simp only [mask]
  refine zR trivial trivial trivial ?_
  exact ⟨trivial, _, _, rfl, rfl⟩
theorem Collect_ok (L : List Int) (hne : L ≠ []) (hL : L.length < 2 ^ 30) (H : List Blk) : ACallH Try.prog 87 H [.c (.fn 89 [.tree (.rptr [.slice (iRows L)])])] (H ++ [.box (flatRows (iRows L))]) (.c (.ref H.length 1 0 L.length L.length)) := by
 have hA := fun H : List Blk => ACallN.hN (AppendSeq_ok L hne hL) (H := H) (args := [.c .nils, .c (.fn 89 [.tree (.rptr [.slice (iRows L)])])]) rfl
 rw [iRows_len] at hA
 refine ACallH.of_body Try.func87 rfl (by kernel_rfl) ?_
 simp only [entry, Try.ntmps87, List.length_cons, List.length_nil, Nat.reduceAdd, Nat.reduceSub, List.replicate_succ, List.replicate_zero, List.cons_append, List.nil_append]
 repeat' (first|((first|(refine zT ?_;intro K' hK')|(refine zG ?_ ?_<;>(try refine zH ?_)<;>intro hguard<;>(try exact zX)<;>try intro K' hK'))<;>((try simp +contextual only [go_sem]);(repeat' first|(with_reducible refine hK' _ _ ?_;clear hK' K')|((with_reducible first|refine ⟨_,_,(hA _),?_⟩|refine ⟨_,(hA _),?_⟩);try simp +contextual only [go_sem])|exact zY|with_reducible refine And.intro ?_ ?_|(with_reducible intro hpath;try exact zP)|(refine hK' _ _ ?_;clear hK' K')|fail);try refine zS ?_))|(refine zE ?_;refine hK _ _ ?_;clear hK K)|(refine zN ?_;try refine zS ?_)|refine zA ?_|(refine zB ?_;intro K hK)|(refine zC ?_ ?_<;>(try refine zH ?_)<;>intro hcond<;>try exact zX)|fail)
 simp [RetsH, aretH, ares, noTup, Try.results87]
theorem Sorted_ok (L : List Int) (hne : L ≠ []) (hL : L.length < 2 ^ 30) : ACallX Try.prog 76 [] [ofT (.t (.fn 89 [.rptr [.slice (iRows L)]]))] (tints (sortI L)) := by
 have hC := Collect_ok L hne hL
 have hS := fun (H : List Blk) (id cap : Nat) (hid : H[id]? = some (.box (flatRows (iRows L)))) => SortI_ok L (by omega) (H := H) (id := id) (cap := cap) hid
 have hln : (iRows (sortI L)).length = L.length := by rw [iRows_len, (sortI_perm L).length_eq]
 have hrf := refRows_flat (rows := iRows (sortI L)) (k := 1) (cap := L.length) (fun r hr => iRows_k' hr) (fun r hr => by obtain ⟨x, _, rfl⟩ := List.mem_map.1 hr; rfl) (by rw [hln]; exact Nat.le_refl _)
 rw [hln] at hrf
 unfold tints
 refine ACallX.of_body Try.func76 rfl (by kernel_rfl) (by simp [isMap]) ?_
 simp only [entry, Try.ntmps76, ofT, ofT1, ofTree, List.map_cons, List.map_nil, List.length_cons, List.length_nil, Nat.reduceAdd, Nat.reduceSub, List.replicate_succ, List.replicate_zero, List.cons_append, List.nil_append]
 refine FWp.of_awp ?_
 repeat' (first|((first|(refine zT ?_;intro K' hK')|(refine zG ?_ ?_<;>(try refine zH ?_)<;>intro hguard<;>(try exact zX)<;>try intro K' hK'))<;>((try simp +contextual only [go_sem]);(repeat' first|(with_reducible refine hK' _ _ ?_;clear hK' K')|((with_reducible first|refine ⟨_,_,(hC _),?_⟩|refine ⟨_,(hC _),?_⟩|refine ⟨_,_,(hS _ _ _ rfl),?_⟩|refine ⟨_,(hS _ _ _ rfl),?_⟩);try simp +contextual only [go_sem])|exact zY|with_reducible refine And.intro ?_ ?_|(with_reducible intro hpath;try exact zP)|(refine hK' _ _ ?_;clear hK' K')|fail);try refine zS ?_))|(refine zE ?_;refine hK _ _ ?_;clear hK K)|(refine zN ?_;try refine zS ?_)|refine zA ?_|(refine zB ?_;intro K hK)|(refine zC ?_ ?_<;>(try refine zH ?_)<;>intro hcond<;>try exact zX)|fail)
 simp [XRets, aretX, Blk.cells, Try.results76, ares, toT1, toT, freshT, toTree0, Tree.flat, hrf]
theorem Values_ok (H : List Blk) (j off len cap : Nat) : ACallH Try.prog 77 H [.c (.ref j 1 off len cap)] (H ++ [.box [.ref j 1 off len cap]]) (.c (.fn 89 [.ptr H.length 0])) := by
 refine ACallH.of_body Try.func77 rfl (by kernel_rfl) ?_
 simp only [entry, Try.ntmps77, List.length_cons, List.length_nil, Nat.reduceAdd, Nat.reduceSub, List.replicate_succ, List.replicate_zero, List.cons_append, List.nil_append]
 refine zR trivial trivial trivial ?_
 simp [RetsH, aretH, ares, noTup, Try.results77]
instance ltE.dec : DecidableRel ltE := fun x y => by unfold ltE; infer_instance
def part : G := ⟨3, [⟨0, 1, 2⟩, ⟨0, 2, 1⟩]⟩
def inL (p : Int → Bool) (n : Nat) : List Int := ((List.range n).map fun (i : Nat) => (i : Int)).filter p
theorem inL_succ (p : Int → Bool) (n : Nat) : inL p (n + 1) = inL p n ++ (if p n then [(n : Int)] else []) := by
 simp only [inL, List.range_succ, List.map_append, List.filter_append, List.map_cons, List.map_nil]
 congr 1
 cases h : p n <;> simp [h]
theorem inL_len (p : Int → Bool) (n : Nat) : (inL p n).length ≤ n := by
 have := List.length_filter_le p ((List.range n).map fun (i : Nat) => (i : Int))
 simpa [inL] using this
theorem inL_mem {p : Int → Bool} {n : Nat} {x : Int} : x ∈ inL p n ↔ (0 ≤ x ∧ x < n) ∧ p x = true := by
 simp only [inL, List.mem_filter, List.mem_map, List.mem_range]
 constructor
 ·rintro ⟨⟨i, hi, rfl⟩, h⟩; exact ⟨by omega, h⟩
 ·rintro ⟨h, h2⟩; exact ⟨⟨x.toNat, by omega, by omega⟩, h2⟩
end Go.Proofs.Ytgklecfiflhjmaa
