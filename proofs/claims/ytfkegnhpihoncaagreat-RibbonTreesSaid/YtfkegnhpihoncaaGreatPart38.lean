/- A part of the proof. -/
import Derived.Test.YtfkegnhpihoncaaGreatPart37
import Derived.Test.YtfkegnhpihoncaaGreatLayerD
import Derived.Test.YtfkegnhpihoncaaGreatLayerC
set_option linter.all false
set_option maxHeartbeats 4000000
set_option maxRecDepth 100000
namespace Go.Proofs.YtfkegnhpihoncaaGreat
open Go.Sp
theorem CloneT_ok (l : List Int) (hne : l ≠ []) (hl : l.length < 2 ^ 30) : ACallX Tryz.prog 64 [] [ofT (tints l)] (tints l) := by
 have hrn : iRows l ≠ [] := by simpa [iRows] using hne
 have hrl : (iRows l).length = l.length := iRows_len l
 have hrk : ∀ r, r ∈ iRows l → r.length = 1 := fun r hr => iRows_k' hr
 have hrf : ∀ r, r ∈ iRows l → flatRow r = true := fun r hr => by obtain ⟨x, _, rfl⟩ := List.mem_map.1 hr; rfl
 unfold tints
 generalize iRows l = rows at *
 refine ACallX.of_body Tryz.func64 rfl (by kernel_rfl) (by simp [isMap]) ?_
 simp only [entry, Tryz.ntmps64, ofT, ofT1, ofTree, List.map_cons, List.map_nil, List.length_cons, List.length_nil, Nat.reduceAdd, Nat.reduceSub, List.replicate_succ, List.replicate_zero, List.cons_append, List.nil_append]
 refine FWp.of_awp ?_
 repeat' (first|((first|(refine zT ?_;intro K' hK')|(refine zG ?_ ?_<;>(try refine zH ?_)<;>intro hguard<;>(try exact zX)<;>try intro K' hK'))<;>((try simp +contextual only [go_sem, hrl, chunks, List.range, List.range.loop]);(repeat' first|(with_reducible refine hK' _ _ ?_;clear hK' K')|(exact hrn)|(with_reducible exact hrk _ (by assumption))|(exact .inr True.intro)|exact zY|with_reducible refine And.intro ?_ ?_|(with_reducible intro hpath;try exact zP)|(refine hK' _ _ ?_;clear hK' K')|fail);try refine zS ?_))|(refine zE ?_;refine hK _ _ ?_;clear hK K)|(refine zN ?_;try refine zS ?_)|refine zA ?_|(refine zB ?_;intro K hK)|(refine zC ?_ ?_<;>(try refine zH ?_)<;>intro hcond<;>try exact zX)|fail)
 simp [XRets, aretX, Blk.cells, ty, Tryz.results64, ares, toT1, toT, freshT, toTree0, Tree.flat]
 exact hrf
theorem CloneT_nil : ACall Tryz.prog 64 [tints []] (tints []) := by
 refine ACall.of_body Tryz.func64 rfl (by kernel_rfl) ?_
 simp only [entry, Tryz.ntmps64, tints, iRows]
 refine zU ?_
 repeat' (first|((with_reducible refine AWp.seq (AWp.of_reg (id:=1) (AReg.pre 1 (fun K hK=>?_))));simp only [List.take_succ_cons,List.take_zero])|((with_reducible refine AWp.of_reg (id:=1) (AReg.pre 1 (fun K hK=>?_)));simp only [List.take_succ_cons,List.take_zero])|((first|(refine zT ?_;intro K' hK')|(refine zG ?_ ?_<;>(try refine zH ?_)<;>intro hguard<;>(try exact zX)<;>try intro K' hK'))<;>((try simp +contextual only [go_sem]);(repeat' first|(with_reducible refine hK' _ _ ?_;clear hK' K')|exact zY|with_reducible refine And.intro ?_ ?_|(with_reducible intro hpath;try exact zP)|(refine hK' _ _ ?_;clear hK' K')|fail);try refine zS ?_))|(refine zE ?_;refine hK _ _ ?_;clear hK K)|(refine zN ?_;try refine zS ?_)|refine zA ?_|(refine zB ?_;intro K hK)|(refine zC ?_ ?_<;>(try refine zH ?_)<;>intro hcond<;>try exact zX)|fail)
 simp only [List.drop_succ_cons, List.drop_zero]
 refine AReg.nilq (e := 3) false rfl rfl rfl (by simp only [ty]) rfl rfl (fun b => AReg.rest (fun K hK => ?_))
 cases b
 ·
  repeat' (first|((first|(refine zT ?_;intro K' hK')|(refine zG ?_ ?_<;>(try refine zH ?_)<;>intro hguard<;>(try exact zX)<;>try intro K' hK'))<;>((try simp +contextual only [go_sem, List.length_nil, chunks, List.range, List.range.loop, List.map_nil]);(repeat' first|(with_reducible refine hK' _ _ ?_;clear hK' K')|(exact .inr True.intro)|(exact absurd True.intro (by assumption))|exact zY|with_reducible refine And.intro ?_ ?_|(with_reducible intro hpath;try exact zP)|(refine hK' _ _ ?_;clear hK' K')|fail);try refine zS ?_))|(refine zE ?_;refine hK _ _ ?_;clear hK K)|(refine zN ?_;try refine zS ?_)|refine zA ?_|(refine zB ?_;intro K hK)|(refine zC ?_ ?_<;>(try refine zH ?_)<;>intro hcond<;>try exact zX)|fail)
  simp [Rets, aret, Blk.cells, ty, Tryz.results64, ares, toT1, toT, borrow, borrow0, capCell, toTree0, tints, iRows]
 ·
  repeat' (first|((first|(refine zT ?_;intro K' hK')|(refine zG ?_ ?_<;>(try refine zH ?_)<;>intro hguard<;>(try exact zX)<;>try intro K' hK'))<;>((try simp +contextual only [go_sem]);(repeat' first|(with_reducible refine hK' _ _ ?_;clear hK' K')|exact zY|with_reducible refine And.intro ?_ ?_|(with_reducible intro hpath;try exact zP)|(refine hK' _ _ ?_;clear hK' K')|fail);try refine zS ?_))|(refine zE ?_;refine hK _ _ ?_;clear hK K)|(refine zN ?_;try refine zS ?_)|refine zA ?_|(refine zB ?_;intro K hK)|(refine zC ?_ ?_<;>(try refine zH ?_)<;>intro hcond<;>try exact zX)|fail)
  simp [Rets, aret, Blk.cells, ty, Tryz.results64, ares, toT1, toT, borrow, borrow0, capCell, toTree0, tints, iRows]
theorem tyY0 : tAgg Tryz.prog 181 = some false := by kernel_rfl
theorem tyY1 : tSize Tryz.prog 181 = some 1 := by kernel_rfl
theorem tyY2 : tZero Tryz.prog 181 = some .nilFunc := by kernel_rfl
theorem tyY3 : tBytes Tryz.prog 181 = some 8 := by kernel_rfl
theorem tyG0 : tAgg Tryz.prog 182 = some false := by kernel_rfl
theorem tyG1 : tSize Tryz.prog 182 = some 1 := by kernel_rfl
theorem tyG2 : tZero Tryz.prog 182 = some .nilFunc := by kernel_rfl
theorem tyG3 : tBytes Tryz.prog 182 = some 8 := by kernel_rfl
attribute [go_sem] tyY0 tyY1 tyY2 tyY3 tyG0 tyG1 tyG2 tyG3
def growCaps (n : Nat) (L : List (Int × Int)) : List ACap := [.tree (.rptr [.int .i64 (n : Int)]), .ptr 1 0, .tree (.rptr [.slice (pRows L)]), .ptr 2 0]
def tnats (T : List Nat) : TVal := tints (T.map fun x : Nat => (x : Int))
def nC (t : List Nat) : List ACell := t.map fun x : Nat => ACell.int .i64 (x : Int)
theorem nC_len (t : List Nat) : (nC t).length = t.length := by simp [nC]
theorem nC_snoc (t : List Nat) (e : Nat) : nC t ++ [.int .i64 (e : Int)] = nC (t ++ [e]) := by simp [nC]
structure GH (l n : Nat) (L : List (Int × Int)) (H1 : List Blk) : Prop where
 yld : ∀ X : List Blk, (H1 ++ X)[0]? = some (.box [.yld l])
 fn : ∀ X : List Blk, (H1 ++ X)[1]? = some (.box [.fn 156 (growCaps n L)])
 ok : ∀ blk, blk ∈ H1 → okBlk blk
 inn : ∀ blk, blk ∈ H1 → blkIn (H1.length + 1) blk
 len : 2 ≤ H1.length
def GV (t : List Nat) (j cap : Nat) (H1 : List Blk) : Prop := (cap = 0 ∧ t = []) ∨ (2 ≤ j ∧ H1[j]? = some (.box (nC t ++ List.replicate (cap - t.length) .any)))
theorem growS_full {n : Nat} {L : List (Int × Int)} {fuel : Nat} {t : List Nat} {e : Nat} (h : t.length + 1 = n) : growS n L fuel t e = [t] := by
 cases fuel <;> (unfold growS; rw [if_pos h])
def GR (J : Nat → Sig → World → Prop) (Jx : Sig → World → Prop) (k : Nat) (H1 : List Blk) (H' : List Blk) (r : AVal) : Prop :=
 ∃ X, (r = .c (.bool true) ∧ H' = .ghost (J k) :: (H1 ++ X)) ∨ (r = .c (.bool false) ∧ H' = .ghost Jx :: (H1 ++ X))
theorem okF {H1 : List Blk} {F : List Nat} (h : ∀ blk, blk ∈ H1 → okBlk blk) (hf : F.length = 12) : ∀ blk, blk ∈ H1 ++ [.box (fC F)] → okBlk blk := fun blk hb => by
 rcases List.mem_append.1 hb with hb | hb
 ·exact h blk hb
 ·rw [List.mem_singleton] at hb; subst hb
  match F, hf with
  | x :: F, _ => exact trivial
theorem capIn_le {m m' : Nat} (hm : m ≤ m') {c : ACap} (h : capIn m c) : capIn m' c := by
 cases c with
 | tree t => trivial
 | _ => exact Nat.lt_of_lt_of_le h hm
theorem cellIn_le {m m' : Nat} (hm : m ≤ m') {c : ACell} (h : cellIn m c) : cellIn m' c := by
 cases c with
 | slice rows tok => cases tok with
  | chain i => exact Nat.lt_of_lt_of_le h hm
  | _ => trivial
 | fn f caps => exact fun x hx => capIn_le hm (h x hx)
 | rows rs tok => exact ⟨fun r hr x hx => capIn_le hm (h.1 r hr x hx), by
   cases tok with
   | chain i => exact Nat.lt_of_lt_of_le h.2 hm
   | _ => trivial⟩
 | rptrC cs => exact fun x hx => capIn_le hm (h x hx)
 | ptr _ _ => exact Nat.lt_of_lt_of_le h hm
 | ref _ _ _ _ _ => exact Nat.lt_of_lt_of_le h hm
 | vec _ _ _ => exact Nat.lt_of_lt_of_le h hm
 | map _ => exact Nat.lt_of_lt_of_le h hm
 | iter _ => exact Nat.lt_of_lt_of_le h hm
 | _ => trivial
theorem blkIn_le {m m' : Nat} (hm : m ≤ m') {b : Blk} (h : blkIn m b) : blkIn m' b := by
 cases b with
 | box cs => exact fun c hc => cellIn_le hm (h c hc)
 | iter i _ _ => exact Nat.lt_of_lt_of_le h hm
 | _ => trivial
@[simp] theorem takeHX (B : Blk) (H1 X : List Blk) : (H1 ++ B :: X).take (H1.length + 1) = H1 ++ [B] := by
 rw [List.take_length_add_append]; rfl
theorem inF {l n : Nat} {L : List (Int × Int)} {H1 : List Blk} (hG : GH l n L H1) (F : List Nat) : blksIn (H1.length + 2) (H1 ++ [.box (fC F)]) := fun b hb => by
 rcases List.mem_append.1 hb with hb | hb
 ·exact blkIn_le (by omega) (hG.inn b hb)
 ·rw [List.mem_singleton] at hb; subst hb; exact fC_in
theorem GH.app {l n : Nat} {L : List (Int × Int)} {H1 X : List Blk} (hG : GH l n L H1) (h1 : ∀ b, b ∈ X → okBlk b) (h2 : ∀ b, b ∈ X → ∀ m, blkIn m b) : GH l n L (H1 ++ X) where
 yld Y := by rw [List.append_assoc]; exact hG.yld _
 fn Y := by rw [List.append_assoc]; exact hG.fn _
 ok b hb := by
  rcases List.mem_append.1 hb with hb | hb
  ·exact hG.ok b hb
  ·exact h1 b hb
 inn b hb := by
  rcases List.mem_append.1 hb with hb | hb
  ·exact blkIn_le (by rw [List.length_append]; omega) (hG.inn b hb)
  ·exact h2 b hb _
 len := by have := hG.len; rw [List.length_append]; omega
theorem GH.put {l n : Nat} {L : List (Int × Int)} {H1 : List Blk} (hG : GH l n L H1) {j : Nat} (hj2 : 2 ≤ j) {B : Blk} (h1 : okBlk B) (h2 : ∀ m, blkIn m B) : GH l n L (H1.set j B) where
 yld Y := by
  have := hG.yld Y
  have hl := hG.len
  rw [List.getElem?_append_left (by omega)] at this
  rw [List.getElem?_append_left (by rw [List.length_set]; omega), List.getElem?_set_ne (by omega)]; exact this
 fn Y := by
  have := hG.fn Y
  have hl := hG.len
  rw [List.getElem?_append_left (by omega)] at this
  rw [List.getElem?_append_left (by rw [List.length_set]; omega), List.getElem?_set_ne (by omega)]; exact this
 ok b hb := by
  rcases List.mem_or_eq_of_mem_set hb with hb | rfl
  ·exact hG.ok b hb
  ·exact h1
 inn b hb := by
  rcases List.mem_or_eq_of_mem_set hb with hb | rfl
  ·rw [List.length_set]; exact hG.inn b hb
  ·exact h2 _
 len := by rw [List.length_set]; exact hG.len
theorem nC_in {m : Nat} (t : List Nat) (k : Nat) : blkIn m (.box (nC t ++ List.replicate k .any)) := fun c hc => by
 rcases List.mem_append.1 hc with hc | hc
 ·obtain ⟨x, _, rfl⟩ := List.mem_map.1 hc; exact trivial
 ·rw [(List.mem_replicate.1 hc).2]; exact trivial
theorem nC_okB {t : List Nat} (k : Nat) (h : t ≠ []) : okBlk (.box (nC t ++ List.replicate k .any)) := by
 cases t with
 | nil => exact absurd rfl h
 | cons x t => exact trivial
theorem nC_back {t : List Nat} {a cap : Nat} (h : t.length < cap) : (nC (t ++ [a]) ++ List.replicate (cap - (t.length + 1)) ACell.any).set t.length .any = nC t ++ List.replicate (cap - t.length) .any := by
 rw [← nC_snoc, List.append_assoc, List.set_append_right _ _ (by rw [nC_len]; exact Nat.le_refl _), nC_len, Nat.sub_self]
 congr 1
 obtain ⟨d, hd⟩ : ∃ d, cap - t.length = d + 1 := ⟨cap - t.length - 1, by omega⟩
 rw [show cap - (t.length + 1) = d by omega, hd, List.replicate_succ]; rfl
theorem set_back {H1 X : List Blk} {G B C : Blk} {j : Nat} (hj : H1[j]? = some C) : (G :: (H1.set j B ++ X)).set (j + 1) C = G :: (H1 ++ X) := by
 have hl := (List.getElem?_eq_some_iff.1 hj).1
 rw [List.set_cons_succ, List.set_append_left _ _ (by rw [List.length_set]; exact hl), List.set_set]
 congr 2
 apply List.ext_getElem?
 intro i
 by_cases e : j = i
 ·subst e; rw [List.getElem?_set_self hl, hj]
 ·rw [List.getElem?_set_ne e]
theorem growS_step {n : Nat} {L : List (Int × Int)} {t : List Nat} {a : Nat} (ha : a < L.length) (h : ¬ t.length + 1 = n) : growS n L (L.length - a) t a = (open Classical in if acyc (pkN L (t ++ [a])) then growS n L (L.length - (a + 1)) (t ++ [a]) (a + 1) else []) ++ growS n L (L.length - (a + 1)) t (a + 1) := by
 rw [show L.length - a = (L.length - (a + 1)) + 1 by omega, growS, if_neg h]
theorem nC_take (t : List Nat) (X : List ACell) : (nC t ++ X).take t.length = nC t := by
 rw [← nC_len t, List.take_left]
theorem one_flatten (ts : List Tree) : (ts.map fun t => [t]).flatten = ts := by
 induction ts with
 | nil => rfl
 | cons t ts ih => simp only [List.map_cons, List.flatten_cons, List.singleton_append, ih]
theorem chunks_one (ts : List Tree) : chunks 1 ts.length ts = ts.map fun t => [t] := by
 have h := Go.Sp.chunks_flatten (k := 1) (rows := ts.map fun t => [t]) (fun r hr => by obtain ⟨t, _, rfl⟩ := List.mem_map.1 hr; rfl)
 rw [List.length_map, one_flatten] at h
 exact h
theorem nC_trees (t : List Nat) : (nC t).mapM toTree0 = some (t.map fun x : Nat => Tree.int .i64 (x : Int)) := by
 induction t with
 | nil => rfl
 | cons x t ih => unfold nC at ih ⊢; simp [List.mapM_cons, toTree0, ih]
theorem see_vec {H : List Blk} {j : Nat} {t : List Nat} {X : List ACell} (hj : H[j]? = some (.box (nC t ++ X))) : borrow0 H (.ref j 1 0 t.length t.length) = some (.slice (iRows (t.map fun x : Nat => (x : Int)))) := by
 simp only [borrow0, hj, Blk.cells, Option.bind_some, Nat.le_refl, true_and, List.drop_zero, Nat.mul_one, Nat.zero_add, nC_take, nC_trees, Option.map_some]
 rw [if_pos (by simp [nC_len])]
 have h := chunks_one (t.map fun x : Nat => Tree.int .i64 (x : Int))
 rw [List.length_map] at h
 rw [h]
 simp [iRows]
theorem rDual_ok (r : R) (hs : RSm r) : ACall Tryz.prog 23 [tR r] (.tup [tR (dualD r), tints (dualN r), tint (dualE r)]) := by
 have hC := rchecked_ok r hs
 by_cases he : ribE r = 0
 case neg =>
  have e1 : dualE r = ribE r := by unfold dualE; rw [if_pos he]
  have e2 : dualD r = ⟨0, [], []⟩ := by unfold dualD; rw [if_pos (by rw [e1]; exact he)]
  have e3 : dualN r = [] := by unfold dualN; rw [if_pos (by rw [e1]; exact he)]
  rw [e1, e2, e3]
  rw [if_pos he] at hC
  clear e1 e2 e3
  generalize ribE r = E at *
  obtain ⟨n, es, ar⟩ := r
  refine ACall.of_body Tryz.func23 rfl (by kernel_rfl) ?_
  simp only [entry, Tryz.ntmps23, tR]
  refine zU ?_
  refine zR (zc @he trivial) (zc hC trivial) trivial ?_
  simp [Rets, aret, Blk.cells, ty, Tryz.results23, ares, toT1, toT, borrow, borrow0, capCell, toTree0, tint, tR, tints, eRows, llRows, iRows]
 have hr := rok_of he
 have hF := faces_ok r hs hr
 have hlen : (endsL r.es).length ≤ 2000 := ends_len (g := r.g) hs.es hr.c
 rw [if_neg (by omega), he] at hC
 have hfl := facesI_len r
 by_cases h12 : 12 < (facesR r).length
 ·have e1 : dualE r = 5 := by unfold dualE; rw [if_neg (by omega), if_pos h12]
  have e2 : dualD r = ⟨0, [], []⟩ := by unfold dualD; rw [if_pos (by rw [e1]; decide)]
  have e3 : dualN r = [] := by unfold dualN; rw [if_pos (by rw [e1]; decide)]
  rw [e1, e2, e3]
  have h12I : 12 < ((facesI r).length : Int) := by omega
  clear e1 e2 e3
  generalize facesI r = F at *
  generalize tabI (2 * (endsL r.es).length) (ofN (fR (endsL r.es) r.ar) (2 * (endsL r.es).length) (2 * (endsL r.es).length)) = O at *
  generalize endsL r.es = L at *
  clear he hs hr hfl h12
  obtain ⟨n, es, ar⟩ := r
  refine ACall.of_body Tryz.func23 rfl (by kernel_rfl) ?_
  simp only [entry, Tryz.ntmps23, tR]
  refine zU ?_
  refine zR (zc @pRows_len (zc @llRows_len (zc @h12I trivial))) (zc hC (zc hF trivial)) trivial ?_
  simp [Rets, aret, Blk.cells, ty, Tryz.results23, ares, toT1, toT, borrow, borrow0, capCell, toTree0, tint, tR, tints, eRows, llRows, iRows]
 ·have e1 : dualE r = (dualM r).2 := by unfold dualE; rw [if_neg (by omega), if_neg h12]
  have hja := jK_all r
  have hMk := Make_ok (facesR r).length (joinsR r) (by rw [joinsR_len]; omega)
  have hW := dual_walk r.n r.es r.ar (endsL r.es) (facesI r) (tabI (2 * (endsL r.es).length) (ofF r)) (dualM r) hC hF (by rw [hja, hfl]; exact hMk) hlen (tabI_len _ _) (fun v hv => by
   obtain ⟨x, _, rfl⟩ := List.mem_map.1 hv
   have := ofN_range (fR (endsL r.es) r.ar) (2 * (endsL r.es).length) (2 * (endsL r.es).length) x
   unfold ofF; omega) (by omega) (fun l hl x hx => facesI_mem hr hl hx) (fun l hl => facesI_short hr hl)
  rw [hja] at hW
  unfold dualD dualN dualAr
  rw [e1]
  exact hW
end Go.Proofs.YtfkegnhpihoncaaGreat
