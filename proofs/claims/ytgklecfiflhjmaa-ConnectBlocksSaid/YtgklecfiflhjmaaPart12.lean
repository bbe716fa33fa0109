/- A part of the proof. -/
import Derived.Test.YtgklecfiflhjmaaPart11
import Derived.Test.YtgklecfiflhjmaaLayerC
import Derived.Test.YtgklecfiflhjmaaPart05
import Derived.Test.YtgklecfiflhjmaaPart07
import Derived.Test.YtgklecfiflhjmaaPart10
import Derived.Test.YtgklecfiflhjmaaPart02
set_option linter.all false
set_option maxHeartbeats 4000000
set_option maxRecDepth 100000
namespace Go.Proofs.Ytgklecfiflhjmaa
open Go.Sp
def bC (R : List Bool) : List ACell := R.map ACell.bool
def bRows (R : List Bool) : List (List Tree) := R.map fun b => [Tree.bool b]
def tbools (R : List Bool) : TVal := .t (.slice (bRows R))
attribute [go_sem] tbools
theorem bC_len (R : List Bool) : (bC R).length = R.length := by simp [bC]
theorem bRows_len (R : List Bool) : (bRows R).length = R.length := by simp [bRows]
theorem bC_get {R : List Bool} {i : Nat} {b : Bool} (h : R[i]? = some b) : (bC R)[i]? = some (.bool b) := by simp [bC, h]
theorem bRows_get {R : List Bool} {i : Nat} {b : Bool} (h : R[i]? = some b) : (bRows R)[i]? = some [.bool b] := by simp [bRows, h]
theorem bC_set (R : List Bool) (i : Nat) (b : Bool) : (bC R).set i (.bool b) = bC (R.set i b) := by simp [bC, List.map_set]
theorem bC_drop {R : List Bool} {i : Nat} {b : Bool} (h : R[i]? = some b) : (bC R).drop i = .bool b :: (bC R).drop (i + 1) := by
 have hl := (List.getElem?_eq_some_iff.1 h)
 rw [List.drop_eq_getElem_cons (by rw [bC_len]; exact hl.1)]
 obtain ⟨h1, rfl⟩ := hl
 simp [bC]
theorem made_bools (n : Nat) : madeA [ACell.bool false] n = bC (List.replicate n false) := by
 simp [madeA, bC]
def adjB (es : List E) (a b : Nat) : Bool := decide (0 < cntL es (min (a : Int) b) (max (a : Int) b))
def rStep (es : List E) (a : Nat) (R : List Bool) (b : Nat) : List Bool := if R.getD a false && adjB es a b then R.set b true else R
def rRow (es : List E) (n a : Nat) (R : List Bool) : List Bool := (List.range n).foldl (rStep es a) R
def rRound (es : List E) (n : Nat) (R : List Bool) : List Bool := (List.range n).foldl (fun R a => rRow es n a R) R
def reachN (es : List E) (n v k : Nat) : List Bool := (List.range k).foldl (fun R _ => rRound es n R) ((List.replicate n false).set v true)
def reachL (es : List E) (n v : Nat) : List Bool := reachN es n v n
theorem foldl_range_succ {α : Type} (f : α → Nat → α) (z : α) (k : Nat) : (List.range (k + 1)).foldl f z = f ((List.range k).foldl f z) k := by rw [List.range_succ, List.foldl_append]; rfl
theorem foldl_len {f : List Bool → Nat → List Bool} (h : ∀ R i, (f R i).length = R.length) (l : List Nat) (R : List Bool) : (l.foldl f R).length = R.length := by
 induction l generalizing R with
 | nil => rfl
 | cons x xs ih => rw [List.foldl_cons, ih, h]
theorem rStep_len (es : List E) (a : Nat) (R : List Bool) (b : Nat) : (rStep es a R b).length = R.length := by unfold rStep; split <;> simp
theorem rRow_len (es : List E) (n a : Nat) (R : List Bool) : (rRow es n a R).length = R.length := foldl_len (rStep_len es a) _ _
theorem rRound_len (es : List E) (n : Nat) (R : List Bool) : (rRound es n R).length = R.length := foldl_len (fun R a => rRow_len es n a R) _ _
theorem reachN_len (es : List E) (n v k : Nat) : (reachN es n v k).length = n := by
 unfold reachN; rw [foldl_len (fun R _ => rRound_len es n R)]; simp
theorem rStep_run {es : List E} {a : Nat} {R : List Bool} {b : Nat} {x : Bool} (h : R[a]? = some x) : rStep es a R b = if x = true ∧ 0 < cntL es (min (a : Int) b) (max (a : Int) b) then R.set b true else R := by
 unfold rStep adjB
 rw [List.getD_eq_getElem?_getD, h, Option.getD_some]
 cases x <;> simp
theorem bool_get {R : List Bool} {n a : Nat} (h : R.length = n) (ha : a < n) : ∃ x, R[a]? = some x := ⟨_, List.getElem?_eq_getElem (by omega)⟩
theorem bC_ref {R : List Bool} {n : Nat} (h : R.length = n) {H : List Blk} {id : Nat} (hid : H[id]? = some (.box (bC R))) : borrow H (.ref id 1 0 n n) = some (.slice (bRows R)) := by
 have e : borrow H (.ref id 1 0 n n) = borrow0 H (.ref id 1 0 n n) := rfl
 have hf := refRows_flat (rows := bRows R) (k := 1) (cap := n) (fun r hr => by obtain ⟨b, _, rfl⟩ := List.mem_map.1 hr; rfl) (fun r hr => by obtain ⟨b, _, rfl⟩ := List.mem_map.1 hr; rfl) (by rw [bRows_len]; omega)
 have hfl : flatRows (bRows R) = bC R := by
  simp only [flatRows, bRows, bC]
  clear e hf hid h
  induction R with
  | nil => rfl
  | cons x xs ih => simp only [List.map_cons, List.flatten_cons, List.map_append, ih]; rfl
 rw [hfl, bRows_len, h] at hf
 unfold refRows at hf
 rw [e]
 simp only [borrow0, hid, Blk.cells, Option.bind_some]
 split at hf
 ·rename_i hc
  rw [if_pos hc]
  cases hm : (((bC R).drop 0).take (n * 1)).mapM toTree0 with
  | none => rw [hm] at hf; simp at hf
  | some ts =>
   rw [hm] at hf
   simp only [Option.bind_some] at hf
   split at hf
   ·simp at hf; simp [hf]
   ·simp at hf
 ·simp at hf
theorem Reached_ok (g : G) (n v : Nat) (hc : checkG g = 0) (hn : g.n = n) (hv : v < n) (hl : g.es.length < 2 ^ 30) : ACall Try.prog 51 [tG g, tint v] (tbools (reachL g.es n v)) := by
 have hn12 := (checkG_zero.1 hc).1
 have hbe : ∀ a b : Nat, ACall Try.prog 79 [tG g, tint a, tint b] (tint (cntL g.es (min (a : Int) b) (max (a : Int) b))) := fun a b => BetweenR_ok g a b (by omega)
 obtain ⟨gn, es⟩ := g
 simp only at hn hl hn12 hbe ⊢
 subst hn
 refine ACall.of_body Try.func51 rfl (by kernel_rfl) ?_
 simp only [entry, Try.ntmps51, tG, tint]
 refine zU ?_
 repeat' (first|((first|(refine zT ?_;intro K' hK')|(refine zG ?_ ?_<;>(try refine zH ?_)<;>intro hguard<;>(try exact zX)<;>try intro K' hK'))<;>((try simp +contextual only [go_sem, made_bools, Int.toNat_natCast, Nat.mul_one, bC_set, bC_len, List.length_replicate]);(repeat' first|(with_reducible refine hK' _ _ ?_;clear hK' K')|exact zY|with_reducible refine And.intro ?_ ?_|(with_reducible intro hpath;try exact zP)|(refine hK' _ _ ?_;clear hK' K')|fail);try refine zS ?_))|(refine zE ?_;refine hK _ _ ?_;clear hK K)|(refine zN ?_;try refine zS ?_)|refine zA ?_|(refine zB ?_;intro K hK)|(refine zC ?_ ?_<;>(try refine zH ?_)<;>intro hcond<;>try exact zX)|fail)
 refine AWp.loopS (α:=Nat) 48 (fun k=>[(1,.c (.int .i64 (v : Int))),(2,.c (.ptr 0 0)),(5,.c (.ref 1 1 0 n n)),(6,.c (.int .i64 (k : Int)))]) (fun k=>[.box [.int .i64 (n : Int), .slice (eRows es) .none], .box (bC (reachN es n v k))]) (fun k=>k ≤ n) (fun k=>n - k) (0) (hk:=Weak.headL 2 48 [1, 2, 5, 6] zW) (h0:=?_) (round:=fun k hI=>?_)
 ·exact Nat.zero_le _
 ·have hk : k ≤ n := hI
  clear hI
  by_cases hlt : k < n
  ·have hltI : (k : Int) < n := by omega
   have hN : reachN es n v (k + 1) = rRound es n (reachN es n v k) := foldl_range_succ _ _ _
   have hlen := reachN_len es n v k
   generalize reachN es n v k = R at *
   refine zR (zc @hltI trivial) trivial trivial ?_
   refine AWp.loopS (α:=Nat) 48 (fun a=>[(1,.c (.int .i64 (v : Int))),(2,.c (.ptr 0 0)),(5,.c (.ref 1 1 0 n n)),(6,.c (.int .i64 (k : Int))),(7,.c (.int .i64 (a : Int)))]) (fun a=>[.box [.int .i64 (n : Int), .slice (eRows es) .none], .box (bC ((List.range a).foldl (fun R a => rRow es n a R) R))]) (fun a=>a ≤ n) (fun a=>n - a) (0) (hk:=Weak.headL 2 48 [1, 2, 5, 6, 7] zW) (h0:=?_) (round:=fun a hI=>?_)
   ·exact Nat.zero_le _
   ·have ha : a ≤ n := hI
    clear hI
    by_cases hlta : a < n
    ·have hltaI : (a : Int) < n := by omega
     have hA : (List.range (a + 1)).foldl (fun R a => rRow es n a R) R = rRow es n a ((List.range a).foldl (fun R a => rRow es n a R) R) := foldl_range_succ _ _ _
     have hlen2 : ((List.range a).foldl (fun R a => rRow es n a R) R).length = n := by rw [foldl_len (fun R a => rRow_len es n a R), hlen]
     generalize (List.range a).foldl (fun R a => rRow es n a R) R = S at *
     refine zR (zc @hltaI trivial) trivial trivial ?_
     refine AWp.loopS (α:=Nat) 48 (fun b=>[(1,.c (.int .i64 (v : Int))),(2,.c (.ptr 0 0)),(5,.c (.ref 1 1 0 n n)),(6,.c (.int .i64 (k : Int))),(7,.c (.int .i64 (a : Int))),(8,.c (.int .i64 (b : Int)))]) (fun b=>[.box [.int .i64 (n : Int), .slice (eRows es) .none], .box (bC ((List.range b).foldl (rStep es a) S))]) (fun b=>b ≤ n) (fun b=>n - b) (0) (hk:=Weak.headL 2 48 [1, 2, 5, 6, 7, 8] zW) (h0:=?_) (round:=fun b hI=>?_)
     ·exact Nat.zero_le _
     ·have hb : b ≤ n := hI
      clear hI
      by_cases hltb : b < n
      ·have hltbI : (b : Int) < n := by omega
       have hB : (List.range (b + 1)).foldl (rStep es a) S = rStep es a ((List.range b).foldl (rStep es a) S) b := foldl_range_succ _ _ _
       have hlen3 : ((List.range b).foldl (rStep es a) S).length = n := by rw [foldl_len (rStep_len es a), hlen2]
       generalize (List.range b).foldl (rStep es a) S = T at *
       obtain ⟨x, hx⟩ := bool_get hlen3 hlta
       have hd := bC_drop hx
       have hst := rStep_run (es := es) (b := b) hx
       have hbb := hbe a b
       have hg := bC_get hx
       generalize cntL es (min (a : Int) b) (max (a : Int) b) = c at *
       cases x with
       | true =>
        by_cases hcp : 0 < c
        ·rw [if_pos ⟨rfl, hcp⟩] at hst
         rw [hst] at hB
         refine zR (zc @hltbI (zc @hd (zc @hg (zc @hcp (zc @bC_len (zc @hlen3 (zc @bC_set trivial))))))) (zc hbb trivial) trivial ?_
         refine ⟨b + 1,Weak.headF 2 48 [1, 2, 5, 6, 7, 8] (zc @hB trivial) zW,?_,?_⟩
         ·exact hltb
         ·omega
        ·rw [if_neg (by simp [hcp])] at hst
         rw [hst] at hB
         refine zR (zc @hltbI (zc @hd (zc @hg (zc @hcp (zc @bC_len (zc @hlen3 trivial)))))) (zc hbb trivial) trivial ?_
         refine ⟨b + 1,Weak.headF 2 48 [1, 2, 5, 6, 7, 8] (zc @hB trivial) zW,?_,?_⟩
         ·exact hltb
         ·omega
       | false =>
        rw [if_neg (by simp)] at hst
        rw [hst] at hB
        refine zR (zc @hltbI (zc @hd (zc @hg (zc @bC_len (zc @hlen3 trivial))))) trivial trivial ?_
        refine ⟨b + 1,Weak.headF 2 48 [1, 2, 5, 6, 7, 8] (zc @hB trivial) zW,?_,?_⟩
        ·exact hltb
        ·omega
      ·have eb : b = n := by omega
       subst eb
       have hnl : ¬ ((b : Int) < b) := by omega
       have hA' : (List.range (a + 1)).foldl (fun R a => rRow es b a R) R = (List.range b).foldl (rStep es a) S := hA
       refine zR (zc @hnl trivial) trivial trivial ?_
       refine ⟨a + 1,Weak.headF 2 48 [1, 2, 5, 6, 7] (zc @hA' trivial) zW,?_,?_⟩
       ·exact hlta
       ·omega
    ·have ea : a = n := by omega
     subst ea
     have hnl : ¬ ((a : Int) < a) := by omega
     have hN' : reachN es a v (k + 1) = (List.range a).foldl (fun R b => rRow es a b R) R := hN
     refine zR (zc @hnl trivial) trivial trivial ?_
     refine ⟨k + 1,Weak.headF 2 48 [1, 2, 5, 6] (zc @hN' trivial) zW,?_,?_⟩
     ·exact hlt
     ·omega
  ·have ek : k = n := by omega
   subst ek
   have hnl : ¬ ((k : Int) < k) := by omega
   have hlen := reachN_len es k v k
   refine zR (zc @hnl trivial) trivial trivial ?_
   have hR := bC_ref hlen (H := [Blk.box [.int .i64 (k : Int), .slice (eRows es) .none], Blk.box (bC (reachN es k v k))]) (id := 1) rfl
   simp [Rets, aret, Try.results51, ares, toT1, toT, tbools, reachL, hR]
def refsT (base n i : Nat) : List (List ACap) := (List.range i).map fun j => [.ref (j + base) 1 0 n n]
theorem refsT_succ (base n i : Nat) : refsT base n (i + 1) = refsT base n i ++ [[.ref (i + base) 1 0 n n]] := by simp [refsT, List.range_succ]
theorem refsT_len (base n i : Nat) : (refsT base n i).length = i := by simp [refsT]
theorem refsT_k {base n i : Nat} {r : List ACap} (h : r ∈ refsT base n i) : r.length = 1 := by obtain ⟨j, _, rfl⟩ := List.mem_map.1 h; rfl
theorem refsT_in {base n i m : Nat} (hm : i + base ≤ m) : ∀ r, r ∈ refsT base n i → ∀ c, c ∈ r → capIn m c := fun r hr c hc => by
 obtain ⟨j, hj, rfl⟩ := List.mem_map.1 hr
 obtain rfl := List.mem_singleton.1 hc
 have := List.mem_range.1 hj
 show j + base < m
 omega
theorem refsT_get {base n i j : Nat} (h : j < i) : (refsT base n i)[j]? = some [.ref (j + base) 1 0 n n] := by simp [refsT, h]
def rowB (r : List Int) : Blk := .box (iC r)
theorem rowB_in (m : Nat) (r : List Int) : blkIn m (rowB r) := cellsIn_map (fun _ => True.intro)
theorem blksIn_rep {m i : Nat} {r : List Int} : blksIn m (List.replicate i (rowB r)) := fun b hb => by
 rw [(List.mem_replicate.1 hb).2]; exact rowB_in m r
theorem blksIn_tab {m : Nat} {T : List (List Int)} : blksIn m (T.map rowB) := fun b hb => by
 obtain ⟨r, _, rfl⟩ := List.mem_map.1 hb; exact rowB_in m r
theorem rep_snoc {α : Type} (i : Nat) (x : α) : List.replicate i x ++ [x] = List.replicate (i + 1) x := by rw [← List.replicate_succ']
theorem opNe {a b : Nat} (h : a ≠ b) : Operand.tmp a ≠ Operand.tmp b := fun e => h (by cases e; rfl)
theorem Table1_ok (n : Nat) (hn : n ≤ 12) : ACallH Try.prog 83 [.box [.int .i64 0, .nils]] [.c (.int .i64 (n : Int))] (.box [.int .i64 0, .nils] :: .chain n 1 :: List.replicate n (rowB (List.replicate n 0))) (.c (.rows (refsT 2 n n) (.chain 1))) := by
 refine ACallH.of_body Try.func83 rfl (by kernel_rfl) ?_
 simp only [entry, Try.ntmps83, List.length_cons, List.length_nil, Nat.reduceAdd, Nat.reduceSub, List.replicate_succ, List.replicate_zero, List.cons_append, List.nil_append]
 refine zR trivial trivial trivial ?_
 refine AWp.weak (Weak.opens ((fun t f => [f, f, f, t, f, f, f, f, f, f, f, f, f, f, f, f]) true false) 1 (by first | omega | simp)) ?_
 simp only [openS, openV, List.length_cons, List.length_nil, List.length_append, Nat.reduceAdd, List.cons_append, List.nil_append]
 refine AWp.asRows 3 1 rfl ?_
 simp only [List.set_cons_succ, List.set_cons_zero]
 have e0 : refsT 2 n 0 = [] := rfl
 rw [← e0]
 refine AWp.loopS (α:=Nat) 16 (fun i=>[(0,.c (.int .i64 (n : Int))),(3,.c (.rows (refsT 2 n i) (.chain 1))),(4,.c (.int .i64 (i : Int)))]) (fun i=>.box [.int .i64 0, .nils] :: .chain i 1 :: List.replicate i (rowB (List.replicate n 0))) (fun i=>i ≤ n) (fun i=>n - i) (0) (hk:=Weak.headL ((0) + 2) 16 [0, 3, 4] (by (repeat' (first | exact valsIn_nil _ | exact blksIn_nil _ | exact cellsIn_nil _ | refine And.intro ?_ ?_ | refine valsIn_cons ?_ ?_ | refine blksIn_cons ?_ ?_ | refine cellsIn_cons ?_ ?_ | exact True.intro | exact refsT_in (by omega) | exact blksIn_rep | exact blksIn_tab | (show _ < _; omega) | exact cellsIn_map (fun _ => True.intro) | (intro c hc; cases hc; done) | (intro c hc; simp only [List.mem_cons, List.not_mem_nil, or_false] at hc; subst hc; exact True.intro) | (intro c hc; simp only [List.mem_cons, List.not_mem_nil, or_false] at hc; rcases hc with rfl | rfl <;> exact True.intro))))) (h0:=?_) (round:=fun i hI=>?_)
 ·exact Nat.zero_le _
 ·have hi : i ≤ n := hI
  clear hI
  by_cases hlt : i < n
  ·have hltI : (i : Int) < n := by omega
   have hT : refsT 2 n (i + 1) = refsT 2 n i ++ [[.ref (i + 1 + 1) 1 0 n n]] := refsT_succ 2 n i
   have hrb : Blk.box (iC (List.replicate n 0)) = rowB (List.replicate n 0) := rfl
   have hrs := rep_snoc i (rowB (List.replicate n 0))
   repeat' (first|((first|(refine zT ?_;intro K' hK')|(refine zG ?_ ?_<;>(try refine zH ?_)<;>intro hguard<;>(try exact zX)<;>try intro K' hK'))<;>((try simp +contextual only [go_sem, hltI, made_ints, Int.toNat_natCast, hrb, hrs, List.length_replicate, refsT_len]);(repeat' first|(with_reducible refine hK' _ _ ?_;clear hK' K')|(with_reducible exact refsT_k (by assumption))|(exact opNe (by decide))|exact zY|with_reducible refine And.intro ?_ ?_|(with_reducible intro hpath;try exact zP)|(refine hK' _ _ ?_;clear hK' K')|fail);try refine zS ?_))|(refine zE ?_;refine hK _ _ ?_;clear hK K)|(refine zN ?_;try refine zS ?_)|refine zA ?_|(refine zB ?_;intro K hK)|(refine zC ?_ ?_<;>(try refine zH ?_)<;>intro hcond<;>try exact zX)|fail)
   refine ⟨i + 1,Weak.headN ((i + 1) + 2) 16 [0, 3, 4] (by (repeat' (first | exact valsIn_nil _ | exact blksIn_nil _ | exact cellsIn_nil _ | refine And.intro ?_ ?_ | refine valsIn_cons ?_ ?_ | refine blksIn_cons ?_ ?_ | refine cellsIn_cons ?_ ?_ | exact True.intro | exact refsT_in (by omega) | exact blksIn_rep | exact blksIn_tab | (show _ < _; omega) | exact cellsIn_map (fun _ => True.intro) | (intro c hc; cases hc; done) | (intro c hc; simp only [List.mem_cons, List.not_mem_nil, or_false] at hc; subst hc; exact True.intro) | (intro c hc; simp only [List.mem_cons, List.not_mem_nil, or_false] at hc; rcases hc with rfl | rfl <;> exact True.intro)))) (e1:=by first|rfl|(simp [mask,keepL, hT, List.replicate_succ];done)|(simp [mask,keepL, hT, List.replicate_succ]<;>simp_all<;>omega)) (e2:=by first|rfl|(simp [mask,keepL, hT, List.replicate_succ];done)|(simp [mask,keepL, hT, List.replicate_succ]<;>simp_all<;>omega)),?_,?_⟩
   ·exact hlt
   ·omega
  ·have ei : i = n := by omega
   subst ei
   have hnl : ¬ ((i : Int) < i) := by omega
   refine zR (zc @hnl trivial) trivial trivial ?_
   simp [RetsH, aretH, ares, noTup, Try.results83]
def valR (es : List E) (v : Int) (n : Nat) : Int := sumR (fun u => if (u : Int) = v then 0 else cntL es (min (u : Int) v) (max (u : Int) v)) n
theorem cnt_bound {g : G} (hc : checkG g = 0) (a b : Int) : 0 ≤ cntL g.es a b ∧ cntL g.es a b ≤ 50 := by
 have hmul := (checkG_zero.1 hc).2.1
 exact ⟨cntL_ge fun e he => by have := hmul e he; unfold okE at this; omega, cntL_le (fun e he => by have := hmul e he; unfold okE at this; omega) (by omega)⟩
theorem valR_val {g : G} {n : Nat} (hc : checkG g = 0) (hn : g.n = n) {v : Int} (hv : 0 ≤ v ∧ v < n) : valR g.es v n = valL v g.es := by
 have h1 := (handshake hc hn).2.2 v
 have h2 : sumR (fun u => cntL g.es (min v u) (max v u)) n = valR g.es v n + sumR (fun u => if (u : Int) = v then cntL g.es v v else 0) n := by
  unfold valR
  rw [← sumR_add]
  refine sumR_congr fun i _ => ?_
  by_cases e : (i : Int) = v
  ·rw [if_pos e, if_pos e, e, Int.min_self, Int.max_self]; omega
  ·rw [if_neg e, if_neg e, Int.min_comm, Int.max_comm]; omega
 rw [sumR_one hv.1 hv.2] at h2
 omega
theorem ValenceR_ok (g : G) (n : Nat) (hc : checkG g = 0) (hn : g.n = n) (hl : g.es.length < 2 ^ 30) (v : Int) : ACall Try.prog 107 [tG g, tint v] (tint (valR g.es v n)) := by
 have hn12 := (checkG_zero.1 hc).1
 have hVb : ∀ u, u ≤ n → 0 ≤ valR g.es v u ∧ valR g.es v u ≤ 600 := fun u hu => by
  have := sumR_bound (f := fun u => if (u : Int) = v then 0 else cntL g.es (min (u : Int) v) (max (u : Int) v)) (n := u) (k := 50) (fun i _ => by have := cnt_bound hc (min (i : Int) v) (max (i : Int) v); (try simp only); split <;> omega)
  unfold valR; omega
 refine ACall.of_body Try.func107 rfl (by kernel_rfl) ?_
 simp only [entry, Try.ntmps107, tG, tint]
 refine zU ?_
 refine zR trivial trivial trivial ?_
 refine AWp.loopS (α:=Nat) 23 (fun u=>[(1,.c (.int .i64 v)),(2,.c (.ptr 0 0)),(5,.c (.int .i64 (valR g.es v u))),(6,.c (.int .i64 (u : Int)))]) (fun u=>[.box [.int .i64 g.n, .slice (eRows g.es) .none]]) (fun u=>u ≤ n) (fun u=>n - u) (0) (hk:=Weak.headL 1 23 [1, 2, 5, 6] zW) (h0:=?_) (round:=fun u hI=>?_)
 ·exact Nat.zero_le _
 ·have hun : u ≤ n := hI
  clear hI
  by_cases hlt : u < n
  ·have hltI : (u : Int) < g.n := by omega
   have hb := BetweenR_ok g u v (by omega)
   have hcb := cnt_bound hc (min (u : Int) v) (max (u : Int) v)
   have hV := hVb u hun
   have hV1 : valR g.es v (u + 1) = valR g.es v u + (if (u : Int) = v then 0 else cntL g.es (min (u : Int) v) (max (u : Int) v)) := rfl
   generalize valR g.es v u = S at *
   generalize cntL g.es (min (u : Int) v) (max (u : Int) v) = k at *
   repeat' (first|((first|(refine zT ?_;intro K' hK')|(refine zG ?_ ?_<;>(try refine zH ?_)<;>intro hguard<;>(try exact zX)<;>try intro K' hK'))<;>((try simp +contextual only [go_sem, hltI]);(repeat' first|(with_reducible refine hK' _ _ ?_;clear hK' K')|(with_reducible refine zK hb ?_;try simp +contextual only [go_sem, hltI])|exact zY|with_reducible refine And.intro ?_ ?_|(with_reducible intro hpath;try exact zP)|(refine hK' _ _ ?_;clear hK' K')|fail);try refine zS ?_))|(refine zE ?_;refine hK _ _ ?_;clear hK K)|(refine zN ?_;try refine zS ?_)|refine zA ?_|(refine zB ?_;intro K hK)|(refine zC ?_ ?_<;>(try refine zH ?_)<;>intro hcond<;>try exact zX)|fail)
   ·rw [if_neg (by assumption)] at hV1
    refine ⟨u + 1,Weak.headF 1 23 [1, 2, 5, 6] (zc @hV1 trivial) zW,?_,?_⟩
    ·exact hlt
    ·omega
   ·rw [if_pos (by assumption), Int.add_zero] at hV1
    refine ⟨u + 1,Weak.headF 1 23 [1, 2, 5, 6] (zc @hV1 trivial) zW,?_,?_⟩
    ·exact hlt
    ·omega
  ·have eu : u = n := by omega
   subst eu
   have hnl : ¬ ((u : Int) < g.n) := by omega
   refine zR (zc @hnl trivial) trivial trivial ?_
   simp [Rets, aret, Blk.cells, ty, Try.results107, ares, toT1, toT, borrow, borrow0, capCell, toTree0, tint]
theorem DegreeR_ok (g : G) (n : Nat) (hc : checkG g = 0) (hn : g.n = n) (hl : g.es.length < 2 ^ 30) (v : Int) : ACall Try.prog 92 [tG g, tint v] (tint (valR g.es v n + 2 * cntL g.es v v)) := by
 have hn12 := (checkG_zero.1 hc).1
 have hVb : 0 ≤ valR g.es v n ∧ valR g.es v n ≤ 600 := by
  have := sumR_bound (f := fun u => if (u : Int) = v then 0 else cntL g.es (min (u : Int) v) (max (u : Int) v)) (n := n) (k := 50) (fun i _ => by have := cnt_bound hc (min (i : Int) v) (max (i : Int) v); (try simp only); split <;> omega)
  unfold valR; omega
 have hb := BetweenR_ok g v v (by omega)
 rw [Int.min_self, Int.max_self] at hb
 have hcb := cnt_bound hc v v
 have hv := ValenceR_ok g n hc hn hl v
 refine ACall.of_body Try.func92 rfl (by kernel_rfl) ?_
 simp only [entry, Try.ntmps92, tG, tint]
 refine zU ?_
 generalize valR g.es v n = S at *
 generalize cntL g.es v v = k at *
 refine zR trivial (zc hv (zc hb trivial)) trivial ?_
 simp [Rets, aret, Blk.cells, ty, Try.results92, ares, toT1, toT, borrow, borrow0, capCell, toTree0, tint]
def neiP (es : List E) (v : Int) (u : Int) : Bool := !decide (u = v) && decide (0 < cntL es (min u v) (max u v))
def neiR (es : List E) (v : Int) (n : Nat) : List Int := inL (neiP es v) n
theorem NeighboursR_ok (g : G) (n : Nat) (hc : checkG g = 0) (hn : g.n = n) (hl : g.es.length < 2 ^ 30) (v : Int) : ACall Try.prog 50 [tG g, tint v] (tints (neiR g.es v n)) := by
 have hn12 := (checkG_zero.1 hc).1
 refine ACall.of_body Try.func50 rfl (by kernel_rfl) ?_
 simp only [entry, Try.ntmps50, tG, tint]
 refine zU ?_
 refine zR trivial trivial trivial ?_
 refine AWp.weak (Weak.opens ((fun t f => [f, f, f, f, f, t, f, f, f, f, f, f, f, f, f, f, f, f, f, f, f, f, f, f, f, f, f, f]) true false) 1 (by first | omega | simp)) ?_
 simp only [openS, openV, List.length_cons, List.length_nil, List.length_append, Nat.reduceAdd, List.cons_append, List.nil_append]
 refine AWp.loopS (α:=Nat) 28 (fun u=>[(1,.c (.int .i64 v)),(2,.c (.ptr 0 0)),(5,.c (.slice (iRows (inL (neiP g.es v) u)) (.chain 1))),(6,.c (.int .i64 (u : Int)))]) (fun u=>[.box [.int .i64 g.n, .slice (eRows g.es) .none], .chain (inL (neiP g.es v) u).length 1]) (fun u=>u ≤ n) (fun u=>n - u) (0) (hk:=Weak.headL 2 28 [1, 2, 5, 6] zW) (h0:=?_) (round:=fun u hI=>?_)
 ·exact Nat.zero_le _
 ·have hun : u ≤ n := hI
  clear hI
  by_cases hlt : u < n
  ·have hltI : (u : Int) < g.n := by omega
   have hb := BetweenR_ok g u v (by omega)
   have hL := inL_succ (neiP g.es v) u
   have hLl := inL_len (neiP g.es v) u
   have hP : neiP g.es v u = (!decide ((u : Int) = v) && decide (0 < cntL g.es (min (u : Int) v) (max (u : Int) v))) := rfl
   generalize inL (neiP g.es v) u = L at *
   generalize cntL g.es (min (u : Int) v) (max (u : Int) v) = k at *
   by_cases huv : (u : Int) = v
   ·rw [decide_eq_true huv] at hP
    rw [hP] at hL
    simp only [Bool.not_true, Bool.false_and, Bool.false_eq_true, if_false, List.append_nil] at hL
    refine zR (zc @hltI (zc @huv trivial)) (zc hb trivial) trivial ?_
    refine ⟨u + 1,Weak.headF 2 28 [1, 2, 5, 6] (zc @hL trivial) zW,?_,?_⟩
    ·exact hlt
    ·omega
   ·rw [decide_eq_false huv] at hP
    by_cases hk : 0 < k
    ·rw [decide_eq_true hk] at hP
     rw [hP] at hL
     simp only [Bool.not_false, Bool.true_and, if_true] at hL
     refine zRc (zc @hltI (zc @huv (zc @hk (zc @iRows_len (zc @iRows_snoc trivial))))) (zc hb trivial) @iRows_k' ?_
     refine ⟨u + 1,Weak.headF 2 28 [1, 2, 5, 6] (zc @hL trivial) zW,?_,?_⟩
     ·exact hlt
     ·omega
    ·rw [decide_eq_false hk] at hP
     rw [hP] at hL
     simp only [Bool.not_false, Bool.true_and, Bool.false_eq_true, if_false, List.append_nil] at hL
     refine zR (zc @hltI (zc @huv (zc @hk trivial))) (zc hb trivial) trivial ?_
     refine ⟨u + 1,Weak.headF 2 28 [1, 2, 5, 6] (zc @hL trivial) zW,?_,?_⟩
     ·exact hlt
     ·omega
  ·have eu : u = n := by omega
   subst eu
   have hnl : ¬ ((u : Int) < g.n) := by omega
   refine zR (zc @hnl trivial) trivial trivial ?_
   simp [Rets, aret, Blk.cells, ty, Try.results50, ares, toT1, toT, borrow, borrow0, capCell, toTree0, tint, tints, neiR]
def orStep (R S : List Bool) (u : Nat) : List Bool := S.set u (S.getD u false || R.getD u false)
def orK (R S : List Bool) (k : Nat) : List Bool := (List.range k).foldl (orStep R) S
theorem orStep_len (R S : List Bool) (u : Nat) : (orStep R S u).length = S.length := by simp [orStep]
theorem orK_len (R S : List Bool) (k : Nat) : (orK R S k).length = S.length := foldl_len (orStep_len R) _ _
def seenStep (es : List E) (n : Nat) (S : List Bool) (v : Nat) : List Bool := if S.getD v false then S else orK (reachL es n v) S n
def seenN (es : List E) (n v : Nat) : List Bool := (List.range v).foldl (seenStep es n) (List.replicate n false)
theorem seenN_len (es : List E) (n v : Nat) : (seenN es n v).length = n := by
 unfold seenN
 rw [foldl_len (fun S v => by unfold seenStep; split <;> simp [orK_len])]; simp
def partsN (es : List E) (n : Nat) : Nat → Nat
 | 0 => 0
 | v + 1 => if (seenN es n v).getD v false then partsN es n v else partsN es n v + 1
theorem partsN_le (es : List E) (n v : Nat) : partsN es n v ≤ v := by
 induction v with
 | zero => exact Nat.le_refl _
 | succ v ih => simp only [partsN]; split <;> omega
theorem getD_of {R : List Bool} {i : Nat} {x : Bool} (h : R[i]? = some x) : R.getD i false = x := by rw [List.getD_eq_getElem?_getD, h]; rfl
theorem Parts_ok (g : G) (n : Nat) (hc : checkG g = 0) (hn : g.n = n) (hl : g.es.length < 2 ^ 30) : ACall Try.prog 48 [tG g] (tint (partsN g.es n n)) := by
 have hn12 := (checkG_zero.1 hc).1
 have hre : ∀ v : Nat, v < n → ACall Try.prog 51 [tG g, tint v] (tbools (reachL g.es n v)) := fun v hv => Reached_ok g n v hc hn hv hl
 obtain ⟨gn, es⟩ := g
 simp only at hn hl hn12 hre ⊢
 subst hn
 refine ACall.of_body Try.func48 rfl (by kernel_rfl) ?_
 simp only [entry, Try.ntmps48, tG]
 refine zU ?_
 repeat' (first|((first|(refine zT ?_;intro K' hK')|(refine zG ?_ ?_<;>(try refine zH ?_)<;>intro hguard<;>(try exact zX)<;>try intro K' hK'))<;>((try simp +contextual only [go_sem, made_bools, Int.toNat_natCast, Nat.mul_one, bC_set, bC_len, List.length_replicate]);(repeat' first|(with_reducible refine hK' _ _ ?_;clear hK' K')|exact zY|with_reducible refine And.intro ?_ ?_|(with_reducible intro hpath;try exact zP)|(refine hK' _ _ ?_;clear hK' K')|fail);try refine zS ?_))|(refine zE ?_;refine hK _ _ ?_;clear hK K)|(refine zN ?_;try refine zS ?_)|refine zA ?_|(refine zB ?_;intro K hK)|(refine zC ?_ ?_<;>(try refine zH ?_)<;>intro hcond<;>try exact zX)|fail)
 refine AWp.loopS (α:=Nat) 46 (fun v=>[(1,.c (.ptr 0 0)),(2,.c (.int .i64 0)),(3,.c (.int .i64 (partsN es n v))),(4,.c (.ref 1 1 0 n n)),(5,.c (.int .i64 (v : Int)))]) (fun v=>[.box [.int .i64 (n : Int), .slice (eRows es) .none], .box (bC (seenN es n v))]) (fun v=>v ≤ n) (fun v=>n - v) (0) (hk:=Weak.headL 2 46 [1, 2, 3, 4, 5] zW) (h0:=?_) (round:=fun v hI=>?_)
 ·exact Nat.zero_le _
 ·have hv : v ≤ n := hI
  clear hI
  have hlen := seenN_len es n v
  have hpl := partsN_le es n v
  by_cases hlt : v < n
  ·have hltI : (v : Int) < n := by omega
   have hS1 : seenN es n (v + 1) = seenStep es n (seenN es n v) v := foldl_range_succ _ _ _
   have hP1 : partsN es n (v + 1) = if (seenN es n v).getD v false then partsN es n v else partsN es n v + 1 := rfl
   have hrv := hre v hlt
   have hrl := reachN_len es n v n
   generalize partsN es n v = p at *
   generalize seenN es n v = S at *
   obtain ⟨x, hx⟩ := bool_get hlen hlt
   unfold seenStep at hS1
   rw [getD_of hx] at hS1 hP1
   have hd := bC_drop hx
   have hg := bC_get hx
   cases x with
   | true =>
    rw [if_pos rfl] at hS1 hP1
    refine zR (zc @hltI (zc @hd (zc @hg (zc @bC_len (zc @hlen trivial))))) trivial trivial ?_
    refine ⟨v + 1,Weak.headF 2 46 [1, 2, 3, 4, 5] (zc @hS1 (zc @hP1 trivial)) zW,?_,?_⟩
    ·exact hlt
    ·omega
   | false =>
    rw [if_neg (by simp)] at hS1 hP1
    change (reachL es n v).length = n at hrl
    generalize reachL es n v = R at *
    refine zR (zc @hltI (zc @hd (zc @hg (zc @bC_len (zc @hlen trivial))))) (zc hrv trivial) trivial ?_
    refine AWp.loopS (α:=Nat) 46 (fun u=>[(1,.c (.ptr 0 0)),(2,.c (.int .i64 0)),(3,.c (.int .i64 ((p : Int) + 1))),(4,.c (.ref 1 1 0 n n)),(5,.c (.int .i64 (v : Int))),(6,.c (.slice (bRows R) .none)),(7,.c (.int .i64 (u : Int)))]) (fun u=>[.box [.int .i64 (n : Int), .slice (eRows es) .none], .box (bC (orK R S u))]) (fun u=>u ≤ n) (fun u=>n - u) (0) (hk:=Weak.headL 2 46 [1, 2, 3, 4, 5, 6, 7] zW) (h0:=?_) (round:=fun u hI=>?_)
    ·exact Nat.zero_le _
    ·have hu : u ≤ n := hI
     clear hI
     have hlen2 : (orK R S u).length = n := (orK_len R S u).trans hlen
     by_cases hltu : u < n
     ·have hltuI : (u : Int) < n := by omega
      have hO : orK R S (u + 1) = orStep R (orK R S u) u := foldl_range_succ _ _ _
      generalize orK R S u = T at *
      obtain ⟨y, hy⟩ := bool_get hlen2 hltu
      obtain ⟨z, hz⟩ := bool_get hrl hltu
      unfold orStep at hO
      rw [getD_of hy, getD_of hz] at hO
      have hd2 := bC_drop hy
      have hg2 := bC_get hy
      have hg3 := bRows_get hz
      cases y with
      | true =>
       rw [Bool.true_or] at hO
       refine zR (zc @hltuI (zc @hd2 (zc @hg2 (zc @hg3 (zc @bC_len (zc @hlen2 (zc @bC_set (zc @bRows_len (zc @hrl trivial))))))))) trivial trivial ?_
       refine ⟨u + 1,Weak.headF 2 46 [1, 2, 3, 4, 5, 6, 7] (zc @hO trivial) zW,?_,?_⟩
       ·exact hltu
       ·omega
      | false =>
       rw [Bool.false_or] at hO
       refine zR (zc @hltuI (zc @hd2 (zc @hg2 (zc @hg3 (zc @bC_len (zc @hlen2 (zc @bC_set (zc @bRows_len (zc @hrl trivial))))))))) trivial trivial ?_
       refine ⟨u + 1,Weak.headF 2 46 [1, 2, 3, 4, 5, 6, 7] (zc @hO trivial) zW,?_,?_⟩
       ·exact hltu
       ·omega
     ·have eu : u = n := by omega
      subst eu
      have hnl : ¬ ((u : Int) < u) := by omega
      refine zR (zc @hnl trivial) trivial trivial ?_
      refine ⟨v + 1,Weak.headF 2 46 [1, 2, 3, 4, 5] (zc @hS1 (zc @hP1 trivial)) zW,?_,?_⟩
      ·exact hlt
      ·omega
  ·have ev : v = n := by omega
   subst ev
   have hnl : ¬ ((v : Int) < v) := by omega
   refine zR (zc @hnl trivial) trivial trivial ?_
   simp [Rets, aret, Blk.cells, ty, Try.results48, ares, toT1, toT, borrow, borrow0, capCell, toTree0, tint]
structure PermL (n : Nat) (l : List Int) : Prop where
 len : l.length = n
 rng : ∀ x, x ∈ l → 0 ≤ x ∧ x < n
 nd : l.Nodup
def nrm (F : Int → Int) (x : E) : E := ⟨min (F x.a) (F x.b), max (F x.a) (F x.b), x.m⟩
structure Ren (g h : G) (n : Nat) (F : Int → Int) : Prop where
 c : checkG g = 0
 nn : g.n = n
 c' : checkG h = 0
 nn' : h.n = n
 rng : ∀ v : Int, 0 ≤ v ∧ v < n → 0 ≤ F v ∧ F v < n
 inj : ∀ u v : Int, 0 ≤ u ∧ u < n → 0 ≤ v ∧ v < n → F u = F v → u = v
 perm : h.es.Perm (g.es.map (nrm F))
theorem degL_perm {v : Int} {a b : List (Int × Int)} (h : a.Perm b) : degL v a = degL v b := by
 induction h with
 | nil => rfl
 | cons x _ ih => simp only [degL, ih]
 | swap x y l => simp only [degL]; omega
 | trans _ _ h1 h2 => exact h1.trans h2
def tabRows (T : List (List Int)) : List (List Tree) := (T.map fun r => Tree.slice (iRows r)).map fun t => [t]
def tTab (T : List (List Int)) : TVal := .t (.slice (tabRows T))
attribute [go_sem] tTab
theorem tabRows_get {T : List (List Int)} {i : Nat} {r : List Int} (h : T[i]? = some r) : (tabRows T)[i]? = some [.slice (iRows r)] := by simp [tabRows, h]
def cellT (T : List (List Int)) (a b : Nat) : Int := (T.getD a []).getD b 0
structure Sq (n : Nat) (T : List (List Int)) : Prop where
 len : T.length = n
 row : ∀ r, r ∈ T → r.length = n
theorem Sq.get {n : Nat} {T : List (List Int)} (h : Sq n T) {a b : Nat} (ha : a < n) (hb : b < n) : ∃ r, T[a]? = some r ∧ r.length = n ∧ r[b]? = some (cellT T a b) := by
 have hal : a < T.length := by rw [h.len]; exact ha
 have hrl := h.row _ (List.getElem_mem hal)
 refine ⟨T[a], List.getElem?_eq_getElem hal, hrl, ?_⟩
 unfold cellT
 rw [List.getD_eq_getElem?_getD (l := T), List.getElem?_eq_getElem hal, Option.getD_some, List.getD_eq_getElem?_getD, List.getElem?_eq_getElem (by omega)]; rfl
def rowE (f : Nat → Int) (a b : Nat) : List E := (List.range b).filterMap fun j => if a ≤ j ∧ 0 < f j then some ⟨a, j, f j⟩ else none
def joinE (f : Nat → Nat → Int) (n a : Nat) : List E := (List.range a).flatMap fun i => rowE (f i) i n
theorem rowE_succ (f : Nat → Int) (a b : Nat) : rowE f a (b + 1) = rowE f a b ++ (if a ≤ b ∧ 0 < f b then [⟨a, b, f b⟩] else []) := by
 simp only [rowE, List.range_succ, List.filterMap_append]
 congr 1
 by_cases h : a ≤ b ∧ 0 < f b <;> simp [h]
@[simp] theorem rowE_start (f : Nat → Int) (a : Nat) : rowE f a a = [] := by
 simp only [rowE, List.filterMap_eq_nil_iff, List.mem_range]
 intro j hj
 rw [if_neg (by omega)]
theorem joinE_succ (f : Nat → Nat → Int) (n a : Nat) : joinE f n (a + 1) = joinE f n a ++ rowE (f a) a n := by simp [joinE, List.range_succ]
theorem rowE_len (f : Nat → Int) (a b : Nat) : (rowE f a b).length ≤ b := by
 have := List.length_filterMap_le (fun j => if a ≤ j ∧ 0 < f j then some (⟨a, j, f j⟩ : E) else none) (List.range b)
 simpa [rowE] using this
theorem joinE_len (f : Nat → Nat → Int) (n a : Nat) : (joinE f n a).length ≤ a * n := by
 induction a with
 | zero => simp [joinE]
 | succ a ih =>
  have := rowE_len (f a) a n
  rw [joinE_succ, List.length_append, Nat.add_mul]; omega
theorem joinE_congr {f g : Nat → Nat → Int} {n : Nat} (h : ∀ a b, a ≤ b → b < n → f a b = g a b) : ∀ a, a ≤ n → joinE f n a = joinE g n a := by
 intro a
 induction a with
 | zero => intro _; rfl
 | succ a ih =>
  intro ha
  rw [joinE_succ, joinE_succ, ih (by omega)]
  congr 1
  unfold rowE
  have : ∀ l : List Nat, (∀ j, j ∈ l → j < n) → (l.filterMap fun j => if a ≤ j ∧ 0 < f a j then some (⟨a, j, f a j⟩ : E) else none) = l.filterMap fun j => if a ≤ j ∧ 0 < g a j then some (⟨a, j, g a j⟩ : E) else none := by
   intro l
   induction l with
   | nil => intro _; rfl
   | cons j l ih2 =>
    intro hl
    rw [List.filterMap_cons, List.filterMap_cons, ih2 fun x hx => hl x (by simp [hx])]
    by_cases hj : a ≤ j
    ·rw [h a j hj (hl j (by simp))]
    ·rw [if_neg (by omega), if_neg (by omega)]
  exact this _ fun j hj => List.mem_range.1 hj
theorem Joined_ok (n : Nat) (T : List (List Int)) (hn : n ≤ 12) (hT : Sq n T) : ACall Try.prog 84 [tint n, tTab T] (tG ⟨n, joinE (cellT T) n n⟩) := by
 have htl := hT.len
 refine ACall.of_body Try.func84 rfl (by kernel_rfl) ?_
 simp only [entry, Try.ntmps84, tint, tTab]
 refine zU ?_
 refine zR trivial trivial trivial ?_
 refine AWp.weak (Weak.openB 1 1 3 rfl rfl (by omega)) ?_
 simp only [List.set_cons_succ, List.set_cons_zero, List.length_cons, List.length_nil, List.length_append, Nat.reduceAdd, List.cons_append, List.nil_append]
 have hj0 : joinE (cellT T) n 0 = [] := rfl
 refine AWp.loopS (α:=Nat) 45 (fun a=>[(0,.c (.int .i64 (n : Int))),(1,.c (.slice (tabRows T) .none)),(4,.c (.ptr 0 0)),(5,.c (.ptr 1 0)),(6,.c (.int .i64 (a : Int)))]) (fun a=>[.box [.int .i64 0, .nils], .box [.int .i64 (n : Int), .slice (eRows (joinE (cellT T) n a)) (.chain 2)], .chain (joinE (cellT T) n a).length 3]) (fun a=>a ≤ n) (fun a=>n - a) (0) (hk:=Weak.headL 3 45 [0, 1, 4, 5, 6] zW) (h0:=?_) (round:=fun a hI=>?_)
 ·exact Nat.zero_le _
 ·have ha : a ≤ n := hI
  clear hI
  by_cases hlt : a < n
  ·have hltI : (a : Int) < n := by omega
   have hA := joinE_succ (cellT T) n a
   have hjl := joinE_len (cellT T) n a
   have hjl2 : a * n ≤ 12 * 12 := Nat.mul_le_mul (by omega) hn
   refine zR (zc @hltI trivial) trivial trivial ?_
   refine AWp.loopS (α:=Nat) 45 (fun b=>[(0,.c (.int .i64 (n : Int))),(1,.c (.slice (tabRows T) .none)),(4,.c (.ptr 0 0)),(5,.c (.ptr 1 0)),(6,.c (.int .i64 (a : Int))),(7,.c (.int .i64 (b : Int)))]) (fun b=>[.box [.int .i64 0, .nils], .box [.int .i64 (n : Int), .slice (eRows (joinE (cellT T) n a ++ rowE (cellT T a) a b)) (.chain 2)], .chain (joinE (cellT T) n a ++ rowE (cellT T a) a b).length 3]) (fun b=>a ≤ b ∧ b ≤ n) (fun b=>n - b) (a) (hk:=Weak.headL 3 45 [0, 1, 4, 5, 6, 7] zW) (h0:=?_) (round:=fun b hI=>?_)
   ·exact ⟨Nat.le_refl _, ha⟩
   ·obtain ⟨hab, hb⟩ := hI
    by_cases hltb : b < n
    ·have hltbI : (b : Int) < n := by omega
     obtain ⟨r, e1, e2, e3⟩ := hT.get hlt hltb
     have f1 := tabRows_get e1
     have f2 := iRows_get e3
     have hR := rowE_succ (cellT T a) a b
     have hrl := rowE_len (cellT T a) a b
     have hLs : joinE (cellT T) n a ++ rowE (cellT T a) a (b + 1) = (joinE (cellT T) n a ++ rowE (cellT T a) a b) ++ (if a ≤ b ∧ 0 < cellT T a b then [⟨a, b, cellT T a b⟩] else []) := by rw [hR, List.append_assoc]
     have hLl : (joinE (cellT T) n a ++ rowE (cellT T a) a b).length ≤ 200 := by rw [List.length_append]; omega
     generalize joinE (cellT T) n a ++ rowE (cellT T a) a b = L at *
     generalize hx : cellT T a b = x at *
     by_cases hp : 0 < x
     ·rw [if_pos ⟨hab, hp⟩] at hLs
      have hsn := eRows_snoc L ⟨a, b, x⟩
      refine zRc (zc @hltbI (zc @f1 (zc @f2 (zc @hp (zc @eRows_len (zc @hsn trivial)))))) trivial @eRows_k' ?_
      refine ⟨b + 1,Weak.headF 3 45 [0, 1, 4, 5, 6, 7] (zc @hLs trivial) zW,?_,?_⟩
      ·exact ⟨by omega, hltb⟩
      ·omega
     ·rw [if_neg (by omega), List.append_nil] at hLs
      refine zR (zc @hltbI (zc @f1 (zc @f2 (zc @hp trivial)))) trivial trivial ?_
      refine ⟨b + 1,Weak.headF 3 45 [0, 1, 4, 5, 6, 7] (zc @hLs trivial) zW,?_,?_⟩
      ·exact ⟨by omega, hltb⟩
      ·omega
    ·have eb : b = n := by omega
     have hnl : ¬ ((b : Int) < n) := by omega
     rw [eb]
     rw [eb] at hnl
     refine zR (zc @hnl trivial) trivial trivial ?_
     refine ⟨a + 1,Weak.headF 3 45 [0, 1, 4, 5, 6] (zc @hA trivial) zW,?_,?_⟩
     ·exact hlt
     ·omega
  ·have ea : a = n := by omega
   subst ea
   have hnl : ¬ ((a : Int) < a) := by omega
   refine zR (zc @hnl trivial) trivial trivial ?_
   simp [Rets, aret, Blk.cells, ty, Try.results84, ares, toT1, toT, borrow, borrow0, capCell, toTree0, tG]
end Go.Proofs.Ytgklecfiflhjmaa
