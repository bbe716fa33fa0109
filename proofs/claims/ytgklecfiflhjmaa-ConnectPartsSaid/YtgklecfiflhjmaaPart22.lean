/- A part of the proof. -/
import Derived.Test.YtgklecfiflhjmaaPart21
import Derived.Test.YtgklecfiflhjmaaLayerC
import Derived.Test.YtgklecfiflhjmaaPart09
import Derived.Test.YtgklecfiflhjmaaPart12
import Derived.Test.YtgklecfiflhjmaaPart19
set_option linter.all false
set_option maxHeartbeats 4000000
set_option maxRecDepth 100000
namespace Go.Proofs.Ytgklecfiflhjmaa
open Go.Sp
def bC (R : List Bool) : List ACell := R.map ACell.bool
def bRows (R : List Bool) : List (List Tree) := R.map fun b => [Tree.bool b]
def tbools (R : List Bool) : TVal := .t (.slice (bRows R))
attribute [go_sem] tbools
theorem bC_len (R : List Bool) : (bC R).length = R.length := by simp [bC]
theorem bRows_len (R : List Bool) : (bRows R).length = R.length := by simp [bRows]
theorem bC_get {R : List Bool} {i : Nat} {b : Bool} (h : R[i]? = some b) : (bC R)[i]? = some (.bool b) := by simp [bC, h]
theorem bRows_get {R : List Bool} {i : Nat} {b : Bool} (h : R[i]? = some b) : (bRows R)[i]? = some [.bool b] := by simp [bRows, h]
theorem bC_set (R : List Bool) (i : Nat) (b : Bool) : (bC R).set i (.bool b) = bC (R.set i b) := by simp [bC, List.map_set]
theorem bC_drop {R : List Bool} {i : Nat} {b : Bool} (h : R[i]? = some b) : (bC R).drop i = .bool b :: (bC R).drop (i + 1) := by
 have hl := (List.getElem?_eq_some_iff.1 h)
 rw [List.drop_eq_getElem_cons (by rw [bC_len]; exact hl.1)]
 obtain ⟨h1, rfl⟩ := hl
 simp [bC]
theorem made_bools (n : Nat) : madeA [ACell.bool false] n = bC (List.replicate n false) := by
 simp [madeA, bC]
def adjB (es : List E) (a b : Nat) : Bool := decide (0 < cntL es (min (a : Int) b) (max (a : Int) b))
def rStep (es : List E) (a : Nat) (R : List Bool) (b : Nat) : List Bool := if R.getD a false && adjB es a b then R.set b true else R
def rRow (es : List E) (n a : Nat) (R : List Bool) : List Bool := (List.range n).foldl (rStep es a) R
def rRound (es : List E) (n : Nat) (R : List Bool) : List Bool := (List.range n).foldl (fun R a => rRow es n a R) R
def reachN (es : List E) (n v k : Nat) : List Bool := (List.range k).foldl (fun R _ => rRound es n R) ((List.replicate n false).set v true)
def reachL (es : List E) (n v : Nat) : List Bool := reachN es n v n
theorem foldl_range_succ {α : Type} (f : α → Nat → α) (z : α) (k : Nat) : (List.range (k + 1)).foldl f z = f ((List.range k).foldl f z) k := by rw [List.range_succ, List.foldl_append]; rfl
theorem foldl_len {f : List Bool → Nat → List Bool} (h : ∀ R i, (f R i).length = R.length) (l : List Nat) (R : List Bool) : (l.foldl f R).length = R.length := by
 induction l generalizing R with
 | nil => rfl
 | cons x xs ih => rw [List.foldl_cons, ih, h]
theorem rStep_len (es : List E) (a : Nat) (R : List Bool) (b : Nat) : (rStep es a R b).length = R.length := by unfold rStep; split <;> simp
theorem rRow_len (es : List E) (n a : Nat) (R : List Bool) : (rRow es n a R).length = R.length := foldl_len (rStep_len es a) _ _
theorem rRound_len (es : List E) (n : Nat) (R : List Bool) : (rRound es n R).length = R.length := foldl_len (fun R a => rRow_len es n a R) _ _
theorem reachN_len (es : List E) (n v k : Nat) : (reachN es n v k).length = n := by
 unfold reachN; rw [foldl_len (fun R _ => rRound_len es n R)]; simp
theorem rStep_run {es : List E} {a : Nat} {R : List Bool} {b : Nat} {x : Bool} (h : R[a]? = some x) : rStep es a R b = if x = true ∧ 0 < cntL es (min (a : Int) b) (max (a : Int) b) then R.set b true else R := by
 unfold rStep adjB
 rw [List.getD_eq_getElem?_getD, h, Option.getD_some]
 cases x <;> simp
theorem bool_get {R : List Bool} {n a : Nat} (h : R.length = n) (ha : a < n) : ∃ x, R[a]? = some x := ⟨_, List.getElem?_eq_getElem (by omega)⟩
theorem bC_ref {R : List Bool} {n : Nat} (h : R.length = n) {H : List Blk} {id : Nat} (hid : H[id]? = some (.box (bC R))) : borrow H (.ref id 1 0 n n) = some (.slice (bRows R)) := by
 have e : borrow H (.ref id 1 0 n n) = borrow0 H (.ref id 1 0 n n) := rfl
 have hf := refRows_flat (rows := bRows R) (k := 1) (cap := n) (fun r hr => by obtain ⟨b, _, rfl⟩ := List.mem_map.1 hr; rfl) (fun r hr => by obtain ⟨b, _, rfl⟩ := List.mem_map.1 hr; rfl) (by rw [bRows_len]; omega)
 have hfl : flatRows (bRows R) = bC R := by
  simp only [flatRows, bRows, bC]
  clear e hf hid h
  induction R with
  | nil => rfl
  | cons x xs ih => simp only [List.map_cons, List.flatten_cons, List.map_append, ih]; rfl
 rw [hfl, bRows_len, h] at hf
 unfold refRows at hf
 rw [e]
 simp only [borrow0, hid, Blk.cells, Option.bind_some]
 split at hf
 ·rename_i hc
  rw [if_pos hc]
  cases hm : (((bC R).drop 0).take (n * 1)).mapM toTree0 with
  | none => rw [hm] at hf; simp at hf
  | some ts =>
   rw [hm] at hf
   simp only [Option.bind_some] at hf
   split at hf
   ·simp at hf; simp [hf]
   ·simp at hf
 ·simp at hf
theorem Reached_ok (g : G) (n v : Nat) (hc : checkG g = 0) (hn : g.n = n) (hv : v < n) (hl : g.es.length < 2 ^ 30) : ACall Try.prog 51 [tG g, tint v] (tbools (reachL g.es n v)) := by
 have hn12 := (checkG_zero.1 hc).1
 have hbe : ∀ a b : Nat, ACall Try.prog 79 [tG g, tint a, tint b] (tint (cntL g.es (min (a : Int) b) (max (a : Int) b))) := fun a b => BetweenR_ok g a b (by omega)
 obtain ⟨gn, es⟩ := g
 simp only at hn hl hn12 hbe ⊢
 subst hn
 refine ACall.of_body Try.func51 rfl (by kernel_rfl) ?_
 simp only [entry, Try.ntmps51, tG, tint]
 refine zU ?_
 repeat' (first|((first|(refine zT ?_;intro K' hK')|(refine zG ?_ ?_<;>(try refine zH ?_)<;>intro hguard<;>(try exact zX)<;>try intro K' hK'))<;>((try simp +contextual only [go_sem, made_bools, Int.toNat_natCast, Nat.mul_one, bC_set, bC_len, List.length_replicate]);(repeat' first|(with_reducible refine hK' _ _ ?_;clear hK' K')|exact zY|with_reducible refine And.intro ?_ ?_|(with_reducible intro hpath;try exact zP)|(refine hK' _ _ ?_;clear hK' K')|fail);try refine zS ?_))|(refine zE ?_;refine hK _ _ ?_;clear hK K)|(refine zN ?_;try refine zS ?_)|refine zA ?_|(refine zB ?_;intro K hK)|(refine zC ?_ ?_<;>(try refine zH ?_)<;>intro hcond<;>try exact zX)|fail)
 refine AWp.loopS (α:=Nat) 48 (fun k=>[(1,.c (.int .i64 (v : Int))),(2,.c (.ptr 0 0)),(5,.c (.ref 1 1 0 n n)),(6,.c (.int .i64 (k : Int)))]) (fun k=>[.box [.int .i64 (n : Int), .slice (eRows es) .none], .box (bC (reachN es n v k))]) (fun k=>k ≤ n) (fun k=>n - k) (0) (hk:=Weak.headL 2 48 [1, 2, 5, 6] zW) (h0:=?_) (round:=fun k hI=>?_)
 ·exact Nat.zero_le _
 ·have hk : k ≤ n := hI
  clear hI
  by_cases hlt : k < n
  ·have hltI : (k : Int) < n := by omega
   have hN : reachN es n v (k + 1) = rRound es n (reachN es n v k) := foldl_range_succ _ _ _
   have hlen := reachN_len es n v k
   generalize reachN es n v k = R at *
   refine zR (zc @hltI trivial) trivial trivial ?_
   refine AWp.loopS (α:=Nat) 48 (fun a=>[(1,.c (.int .i64 (v : Int))),(2,.c (.ptr 0 0)),(5,.c (.ref 1 1 0 n n)),(6,.c (.int .i64 (k : Int))),(7,.c (.int .i64 (a : Int)))]) (fun a=>[.box [.int .i64 (n : Int), .slice (eRows es) .none], .box (bC ((List.range a).foldl (fun R a => rRow es n a R) R))]) (fun a=>a ≤ n) (fun a=>n - a) (0) (hk:=Weak.headL 2 48 [1, 2, 5, 6, 7] zW) (h0:=?_) (round:=fun a hI=>?_)
   ·exact Nat.zero_le _
   ·have ha : a ≤ n := hI
    clear hI
    by_cases hlta : a < n
    ·have hltaI : (a : Int) < n := by omega
     have hA : (List.range (a + 1)).foldl (fun R a => rRow es n a R) R = rRow es n a ((List.range a).foldl (fun R a => rRow es n a R) R) := foldl_range_succ _ _ _
     have hlen2 : ((List.range a).foldl (fun R a => rRow es n a R) R).length = n := by rw [foldl_len (fun R a => rRow_len es n a R), hlen]
     generalize (List.range a).foldl (fun R a => rRow es n a R) R = S at *
     refine zR (zc @hltaI trivial) trivial trivial ?_
     refine AWp.loopS (α:=Nat) 48 (fun b=>[(1,.c (.int .i64 (v : Int))),(2,.c (.ptr 0 0)),(5,.c (.ref 1 1 0 n n)),(6,.c (.int .i64 (k : Int))),(7,.c (.int .i64 (a : Int))),(8,.c (.int .i64 (b : Int)))]) (fun b=>[.box [.int .i64 (n : Int), .slice (eRows es) .none], .box (bC ((List.range b).foldl (rStep es a) S))]) (fun b=>b ≤ n) (fun b=>n - b) (0) (hk:=Weak.headL 2 48 [1, 2, 5, 6, 7, 8] zW) (h0:=?_) (round:=fun b hI=>?_)
     ·exact Nat.zero_le _
     ·have hb : b ≤ n := hI
      clear hI
      by_cases hltb : b < n
      ·have hltbI : (b : Int) < n := by omega
       have hB : (List.range (b + 1)).foldl (rStep es a) S = rStep es a ((List.range b).foldl (rStep es a) S) b := foldl_range_succ _ _ _
       have hlen3 : ((List.range b).foldl (rStep es a) S).length = n := by rw [foldl_len (rStep_len es a), hlen2]
       generalize (List.range b).foldl (rStep es a) S = T at *
       obtain ⟨x, hx⟩ := bool_get hlen3 hlta
       have hd := bC_drop hx
       have hst := rStep_run (es := es) (b := b) hx
       have hbb := hbe a b
       have hg := bC_get hx
       generalize cntL es (min (a : Int) b) (max (a : Int) b) = c at *
       cases x with
       | true =>
        by_cases hcp : 0 < c
        ·rw [if_pos ⟨rfl, hcp⟩] at hst
         rw [hst] at hB
         refine zR (zc @hltbI (zc @hd (zc @hg (zc @hcp (zc @bC_len (zc @hlen3 (zc @bC_set trivial))))))) (zc hbb trivial) trivial ?_
         refine ⟨b + 1,Weak.headF 2 48 [1, 2, 5, 6, 7, 8] (zc @hB trivial) zW,?_,?_⟩
         ·exact hltb
         ·omega
        ·rw [if_neg (by simp [hcp])] at hst
         rw [hst] at hB
         refine zR (zc @hltbI (zc @hd (zc @hg (zc @hcp (zc @bC_len (zc @hlen3 trivial)))))) (zc hbb trivial) trivial ?_
         refine ⟨b + 1,Weak.headF 2 48 [1, 2, 5, 6, 7, 8] (zc @hB trivial) zW,?_,?_⟩
         ·exact hltb
         ·omega
       | false =>
        rw [if_neg (by simp)] at hst
        rw [hst] at hB
        refine zR (zc @hltbI (zc @hd (zc @hg (zc @bC_len (zc @hlen3 trivial))))) trivial trivial ?_
        refine ⟨b + 1,Weak.headF 2 48 [1, 2, 5, 6, 7, 8] (zc @hB trivial) zW,?_,?_⟩
        ·exact hltb
        ·omega
      ·have eb : b = n := by omega
       subst eb
       have hnl : ¬ ((b : Int) < b) := by omega
       have hA' : (List.range (a + 1)).foldl (fun R a => rRow es b a R) R = (List.range b).foldl (rStep es a) S := hA
       refine zR (zc @hnl trivial) trivial trivial ?_
       refine ⟨a + 1,Weak.headF 2 48 [1, 2, 5, 6, 7] (zc @hA' trivial) zW,?_,?_⟩
       ·exact hlta
       ·omega
    ·have ea : a = n := by omega
     subst ea
     have hnl : ¬ ((a : Int) < a) := by omega
     have hN' : reachN es a v (k + 1) = (List.range a).foldl (fun R b => rRow es a b R) R := hN
     refine zR (zc @hnl trivial) trivial trivial ?_
     refine ⟨k + 1,Weak.headF 2 48 [1, 2, 5, 6] (zc @hN' trivial) zW,?_,?_⟩
     ·exact hlt
     ·omega
  ·have ek : k = n := by omega
   subst ek
   have hnl : ¬ ((k : Int) < k) := by omega
   have hlen := reachN_len es k v k
   refine zR (zc @hnl trivial) trivial trivial ?_
   have hR := bC_ref hlen (H := [Blk.box [.int .i64 (k : Int), .slice (eRows es) .none], Blk.box (bC (reachN es k v k))]) (id := 1) rfl
   simp [Rets, aret, Try.results51, ares, toT1, toT, tbools, reachL, hR]
def refsT (base n i : Nat) : List (List ACap) := (List.range i).map fun j => [.ref (j + base) 1 0 n n]
theorem refsT_succ (base n i : Nat) : refsT base n (i + 1) = refsT base n i ++ [[.ref (i + base) 1 0 n n]] := by simp [refsT, List.range_succ]
theorem refsT_len (base n i : Nat) : (refsT base n i).length = i := by simp [refsT]
theorem refsT_k {base n i : Nat} {r : List ACap} (h : r ∈ refsT base n i) : r.length = 1 := by obtain ⟨j, _, rfl⟩ := List.mem_map.1 h; rfl
theorem refsT_in {base n i m : Nat} (hm : i + base ≤ m) : ∀ r, r ∈ refsT base n i → ∀ c, c ∈ r → capIn m c := fun r hr c hc => by
 obtain ⟨j, hj, rfl⟩ := List.mem_map.1 hr
 obtain rfl := List.mem_singleton.1 hc
 have := List.mem_range.1 hj
 show j + base < m
 omega
theorem refsT_get {base n i j : Nat} (h : j < i) : (refsT base n i)[j]? = some [.ref (j + base) 1 0 n n] := by simp [refsT, h]
def rowB (r : List Int) : Blk := .box (iC r)
theorem rowB_in (m : Nat) (r : List Int) : blkIn m (rowB r) := cellsIn_map (fun _ => True.intro)
theorem blksIn_rep {m i : Nat} {r : List Int} : blksIn m (List.replicate i (rowB r)) := fun b hb => by
 rw [(List.mem_replicate.1 hb).2]; exact rowB_in m r
theorem blksIn_tab {m : Nat} {T : List (List Int)} : blksIn m (T.map rowB) := fun b hb => by
 obtain ⟨r, _, rfl⟩ := List.mem_map.1 hb; exact rowB_in m r
theorem rep_snoc {α : Type} (i : Nat) (x : α) : List.replicate i x ++ [x] = List.replicate (i + 1) x := by rw [← List.replicate_succ']
theorem opNe {a b : Nat} (h : a ≠ b) : Operand.tmp a ≠ Operand.tmp b := fun e => h (by cases e; rfl)
theorem Table1_ok (n : Nat) (hn : n ≤ 12) : ACallH Try.prog 83 [.box [.int .i64 0, .nils]] [.c (.int .i64 (n : Int))] (.box [.int .i64 0, .nils] :: .chain n 1 :: List.replicate n (rowB (List.replicate n 0))) (.c (.rows (refsT 2 n n) (.chain 1))) := by
 refine ACallH.of_body Try.func83 rfl (by kernel_rfl) ?_
 simp only [entry, Try.ntmps83, List.length_cons, List.length_nil, Nat.reduceAdd, Nat.reduceSub, List.replicate_succ, List.replicate_zero, List.cons_append, List.nil_append]
 refine zR trivial trivial trivial ?_
 refine AWp.weak (Weak.opens ((fun t f => [f, f, f, t, f, f, f, f, f, f, f, f, f, f, f, f]) true false) 1 (by first | omega | simp)) ?_
 simp only [openS, openV, List.length_cons, List.length_nil, List.length_append, Nat.reduceAdd, List.cons_append, List.nil_append]
 refine AWp.asRows 3 1 rfl ?_
 simp only [List.set_cons_succ, List.set_cons_zero]
 have e0 : refsT 2 n 0 = [] := rfl
 rw [← e0]
 refine AWp.loopS (α:=Nat) 16 (fun i=>[(0,.c (.int .i64 (n : Int))),(3,.c (.rows (refsT 2 n i) (.chain 1))),(4,.c (.int .i64 (i : Int)))]) (fun i=>.box [.int .i64 0, .nils] :: .chain i 1 :: List.replicate i (rowB (List.replicate n 0))) (fun i=>i ≤ n) (fun i=>n - i) (0) (hk:=Weak.headL ((0) + 2) 16 [0, 3, 4] (by (repeat' (first | exact valsIn_nil _ | exact blksIn_nil _ | exact cellsIn_nil _ | refine And.intro ?_ ?_ | refine valsIn_cons ?_ ?_ | refine blksIn_cons ?_ ?_ | refine cellsIn_cons ?_ ?_ | exact True.intro | exact refsT_in (by omega) | exact blksIn_rep | exact blksIn_tab | (show _ < _; omega) | exact cellsIn_map (fun _ => True.intro) | (intro c hc; cases hc; done) | (intro c hc; simp only [List.mem_cons, List.not_mem_nil, or_false] at hc; subst hc; exact True.intro) | (intro c hc; simp only [List.mem_cons, List.not_mem_nil, or_false] at hc; rcases hc with rfl | rfl <;> exact True.intro))))) (h0:=?_) (round:=fun i hI=>?_)
 ·exact Nat.zero_le _
 ·have hi : i ≤ n := hI
  clear hI
  by_cases hlt : i < n
  ·have hltI : (i : Int) < n := by omega
   have hT : refsT 2 n (i + 1) = refsT 2 n i ++ [[.ref (i + 1 + 1) 1 0 n n]] := refsT_succ 2 n i
   have hrb : Blk.box (iC (List.replicate n 0)) = rowB (List.replicate n 0) := rfl
   have hrs := rep_snoc i (rowB (List.replicate n 0))
   repeat' (first|((first|(refine zT ?_;intro K' hK')|(refine zG ?_ ?_<;>(try refine zH ?_)<;>intro hguard<;>(try exact zX)<;>try intro K' hK'))<;>((try simp +contextual only [go_sem, hltI, made_ints, Int.toNat_natCast, hrb, hrs, List.length_replicate, refsT_len]);(repeat' first|(with_reducible refine hK' _ _ ?_;clear hK' K')|(with_reducible exact refsT_k (by assumption))|(exact opNe (by decide))|exact zY|with_reducible refine And.intro ?_ ?_|(with_reducible intro hpath;try exact zP)|(refine hK' _ _ ?_;clear hK' K')|fail);try refine zS ?_))|(refine zE ?_;refine hK _ _ ?_;clear hK K)|(refine zN ?_;try refine zS ?_)|refine zA ?_|(refine zB ?_;intro K hK)|(refine zC ?_ ?_<;>(try refine zH ?_)<;>intro hcond<;>try exact zX)|fail)
   refine ⟨i + 1,Weak.headN ((i + 1) + 2) 16 [0, 3, 4] (by (repeat' (first | exact valsIn_nil _ | exact blksIn_nil _ | exact cellsIn_nil _ | refine And.intro ?_ ?_ | refine valsIn_cons ?_ ?_ | refine blksIn_cons ?_ ?_ | refine cellsIn_cons ?_ ?_ | exact True.intro | exact refsT_in (by omega) | exact blksIn_rep | exact blksIn_tab | (show _ < _; omega) | exact cellsIn_map (fun _ => True.intro) | (intro c hc; cases hc; done) | (intro c hc; simp only [List.mem_cons, List.not_mem_nil, or_false] at hc; subst hc; exact True.intro) | (intro c hc; simp only [List.mem_cons, List.not_mem_nil, or_false] at hc; rcases hc with rfl | rfl <;> exact True.intro)))) (e1:=by first|rfl|(simp [mask,keepL, hT, List.replicate_succ];done)|(simp [mask,keepL, hT, List.replicate_succ]<;>simp_all<;>omega)) (e2:=by first|rfl|(simp [mask,keepL, hT, List.replicate_succ];done)|(simp [mask,keepL, hT, List.replicate_succ]<;>simp_all<;>omega)),?_,?_⟩
   ·exact hlt
   ·omega
  ·have ei : i = n := by omega
   subst ei
   have hnl : ¬ ((i : Int) < i) := by omega
   refine zR (zc @hnl trivial) trivial trivial ?_
   simp [RetsH, aretH, ares, noTup, Try.results83]
end Go.Proofs.Ytgklecfiflhjmaa
