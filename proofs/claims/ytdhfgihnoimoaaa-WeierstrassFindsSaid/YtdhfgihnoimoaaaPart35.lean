/- A part of the proof. -/
import Derived.Test.YtdhfgihnoimoaaaLayerC
import Derived.Test.YtdhfgihnoimoaaaPart34
import Derived.Test.YtdhfgihnoimoaaaPart03
set_option linter.all false
set_option maxHeartbeats 4000000
set_option maxRecDepth 100000
namespace Go.Proofs.Ytdhfgihnoimoaaa
open Go.Sp
structure Sm5 (n : Nat) (es : List E) : Prop where
 g : Gok n es
 n5 : n ≤ 5
 s7 : (endsL es).length ≤ 7
theorem Sm5.sz {n : Nat} {es : List E} (h : Sm5 n es) : sizeE es ≤ 7 ∧ 0 ≤ sizeE es := by
 have h1 := sizeE_ends (es := es) fun e he => by have := h.g.hm1 e he; omega
 have := h.s7
 omega
theorem Sm5.rk {n : Nat} {es : List E} (h : Sm5 n es) : RkC n es (sizeE es - n + 1) 110 (2 * (sizeE es - n + 1) - 2).toNat := rkc_of h.g h.n5 h.s7
def timL (n v : Nat) (k : Int) : List Int := (List.replicate n 0).set v k
theorem timL_len (n v : Nat) (k : Int) : (timL n v k).length = n := by simp [timL]
theorem timL_get (n v : Nat) (k : Int) (hv : v < n) (u : Nat) : (timL n v k).getD u 0 = if u = v then k else 0 := by
 unfold timL
 rw [getD_set_int _ _ _ _ (by simpa using hv)]
 split
 ·rfl
 ·rw [List.getD_eq_getElem?_getD, List.getElem?_replicate]; split <;> rfl
theorem timL_bnd {n v : Nat} {k B : Int} (hv : v < n) (hk : -B ≤ k ∧ k ≤ B) : bndL B (timL n v k) := fun u => by
 rw [timL_get n v k hv]; split <;> omega
theorem timL_sum {n v : Nat} {k : Int} (hv : v < n) : sumD (timL n v k) n = k := by
 unfold sumD
 rw [sumR_congr (g := fun u => if u = v then k else 0) fun u _ => timL_get n v k hv u, sumR_delta _ _ hv]
noncomputable def rkT (n : Nat) (es : List E) (v : Nat) (k : Nat) : Int := rkD n (mulE es) fun u => (timL n v (k : Int)).getD u 0
noncomputable def alongL (n : Nat) (es : List E) (v : Nat) (N : Nat) : List Int := (List.range N).map fun k => rkT n es v k
theorem alongL_len (n : Nat) (es : List E) (v N : Nat) : (alongL n es v N).length = N := by simp [alongL]
theorem alongL_succ (n : Nat) (es : List E) (v N : Nat) : alongL n es v (N + 1) = alongL n es v N ++ [rkT n es v N] := by simp [alongL, List.range_succ]
theorem alongL_get {n : Nat} {es : List E} {v N k : Nat} (hk : k < N) : (alongL n es v N)[k]? = some (rkT n es v k) := by
 unfold alongL; rw [List.getElem?_map, List.getElem?_range hk]; rfl
theorem Times_ok (n v : Nat) (es : List E) (k : Int) (h12 : n ≤ 12) (hv : v < n) : ACall Try.prog 56 [tG ⟨(n : Int), es⟩, tint v, tint k] (tints (timL n v k)) := by
 have hvI : (v : Int) < (n : Int) := by omega
 have hst := iC_set (List.replicate n 0) v k
 have hsl := timL_len n v k
 have hzl : (List.replicate n (0 : Int)).length = n := by simp
 have ht : timL n v k = (List.replicate n 0).set v k := rfl
 rw [← ht] at hst
 generalize timL n v k = d at *
 have hr0 : borrow [.box [.int .i64 (n : Int), .slice (eRows es) .none], .box (iC d)] (.ref 1 1 0 n n) = some (.slice (iRows d)) := iC_ref hsl rfl
 refine ACall.of_body Try.func56 rfl (by kernel_rfl) ?_
 simp only [entry, Try.ntmps56, tG, tint]
 refine zU ?_
 refine zR (zc @made_ints (zc @hvI (zc @hst (zc @iC_len (zc @hzl (zc @Nat.zero_add trivial)))))) trivial trivial ?_
 simp [Rets, aret, Try.results56, ares, toT1, toT, hr0, tints]
theorem Along_ok {n : Nat} {es : List E} (h : Sm5 n es) {v : Nat} (hv : v < n) {N : Nat} (hN : N ≤ 12) : ACall Try.prog 33 [tG ⟨(n : Int), es⟩, tint v, tint ((N : Int) - 1)] (tints (alongL n es v N)) := by
 have h5 := h.n5
 have hsz := h.sz
 have hT := fun k : Nat => Times_ok n v es k (by omega) hv
 have hO : ∀ k : Nat, k ≤ 12 → ACall Try.prog 50 [tG ⟨(n : Int), es⟩, tints (timL n v k)] (tint (rkT n es v k)) := fun k hk => Of_ok h.g (by omega) (by omega) (timL_len _ _ _) (timL_bnd hv (by omega)) (by rw [timL_sum hv]; omega)
 have hal := fun k => alongL_len n es v k
 have hz : alongL n es v 0 = [] := rfl
 have hsc := fun k => alongL_succ n es v k
 refine ACall.of_body Try.func33 rfl (by kernel_rfl) ?_
 simp only [entry, Try.ntmps33, tG, tint]
 refine zU ?_
 refine zJ (stop 2) trivial trivial trivial trivial ?_
 refine AWp.weak (Weak.opens ((fun t f => [f, f, f, f, f, f, f, t, f, f, f, f, f, f, f, f, f, f, f, f, f, f, f, f]) true false) 1 (by first | omega | simp)) ?_
 simp only [openS, openV, List.length_cons, List.length_nil, List.length_append, Nat.reduceAdd, List.cons_append, List.nil_append]
 refine zR trivial trivial trivial ?_
 refine AWp.loopS (α:=Nat) 24 (fun k=>[(1,.c (.int .i64 (v : Int))),(2,.c (.int .i64 ((N : Int) - 1))),(3,.c (.ptr 0 0)),(7,.c (.slice (iRows (alongL n es v k)) (.chain 1))),(8,.c (.int .i64 (k : Int)))]) (fun k=>[.box [.int .i64 (n : Int), .slice (eRows es) .none], .chain (alongL n es v k).length 1]) (fun k=>k ≤ N) (fun k=>N - k) (0) (hk:=Weak.headL 2 24 [1, 2, 3, 7, 8] (zV2 @iC_in @bC_inS)) (h0:=?_) (round:=fun k hI=>?_)
 ·exact Nat.zero_le _
 ·have hk : k ≤ N := hI
  clear hI
  by_cases hkl : k < N
  ·have hkI : (k : Int) ≤ (N : Int) - 1 := by omega
   have hTk := hT k
   have hOk := hO k (by omega)
   have hs := hsc k
   have hl0 := hal k
   have hl1 := hal (k + 1)
   clear hT hO hsc hal
   generalize timL n v (k : Int) = t at *
   generalize rkT n es v k = r at *
   generalize hA1 : alongL n es v (k + 1) = A1 at *
   generalize alongL n es v k = A0 at *
   have hln : A1.length = A0.length + 1 := by omega
   refine zRc (zc @hkI (zc @iRows_len (zc @iRows_snoc trivial))) (zc hTk (zc hOk trivial)) @iRows_k' ?_
   rw [← hs]
   refine ⟨k + 1,Weak.headF 2 24 [1, 2, 3, 7, 8] (zc @hA1 (zc @hln trivial)) (zV2 @iC_in @bC_inS),?_,?_⟩
   ·exact hkl
   ·omega
  ·have hnl : ¬ (k : Int) ≤ (N : Int) - 1 := by omega
   have ek : k = N := by omega
   rw [ek]
   rw [ek] at hnl
   clear hT hO hsc hal
   generalize alongL n es v N = A0 at *
   refine zR (zc @hnl trivial) trivial trivial ?_
   simp [Rets, aret, Blk.cells, ty, Try.results33, ares, toT1, toT, borrow, borrow0, capCell, toTree0, tints]
theorem Gen39_ok (n : Nat) (es : List E) (hl : es.length ≤ 40) (hc : checkG ⟨(n : Int), es⟩ = 0) : ACall Try.prog 22 [tG ⟨(n : Int), es⟩] (tint (sizeE es - n + 1)) := by
 have hk := checkG_zero.1 hc
 have h12 := hk.1
 simp only at h12
 have hm : ∀ e, e ∈ es → 0 ≤ e.m ∧ e.m ≤ 50 := fun e he => by have := hk.2.1 e he; unfold okE at this; omega
 have hsb : ∀ i, 0 ≤ sizeE (es.take i) ∧ sizeE (es.take i) ≤ 50 * (es.take i).length := fun i => by
  have key : ∀ l : List E, (∀ e, e ∈ l → 0 ≤ e.m ∧ e.m ≤ 50) → 0 ≤ sizeE l ∧ sizeE l ≤ 50 * l.length := fun l => by
   induction l with
   | nil => intro _; exact ⟨Int.le_refl _, Int.le_refl _⟩
   | cons e l ih =>
    intro hh
    have h1 := ih fun x hx => hh x (by simp [hx])
    have h2 := hh e (by simp)
    simp only [sizeE, List.length_cons]
    split <;> omega
  exact key _ fun e he => hm e (List.mem_of_mem_take he)
 have hsn : ∀ i (h : i < es.length), sizeE (es.take (i + 1)) = sizeE (es.take i) + (if es[i].a ≠ es[i].b then es[i].m else 0) := fun i h => by
  have key : ∀ (l : List E) e, sizeE (l ++ [e]) = sizeE l + (if e.a ≠ e.b then e.m else 0) := fun l e => by
   induction l with
   | nil => simp [sizeE]
   | cons x l ih => rw [List.cons_append]; simp only [sizeE, ih]; omega
  rw [List.take_succ_eq_append_getElem h, key]
 have hz : sizeE (es.take 0) + (1 - (n : Int)) = 1 - (n : Int) := by simp [sizeE]
 have hfin : sizeE (es.take es.length) = sizeE es := by rw [List.take_length]
 refine ACall.of_body Try.func22 rfl (by kernel_rfl) ?_
 simp only [entry, Try.ntmps22, tG]
 refine zU ?_
 refine zR trivial trivial trivial ?_
 rw [← hz]
 refine AWp.loopS (α:=Nat) 37 (fun i=>[(1,.c (.ptr 0 0)),(3,.c (.int .i64 (sizeE (es.take i) + (1 - (n : Int))))),(4,.c (.int .i64 (i : Int)))]) (fun i=>[.box [.int .i64 (n : Int), .slice (eRows es) .none]]) (fun i=>i ≤ es.length) (fun i=>es.length - i) (0) (hk:=Weak.headL 1 37 [1, 3, 4] (zV2 @iC_in @bC_inS)) (h0:=?_) (round:=fun i hI=>?_)
 ·exact Nat.zero_le _
 ·have hi : i ≤ es.length := hI
  clear hI
  by_cases hil : i < es.length
  ·have hiI : (i : Int) < (es.length : Int) := by omega
   have e0 := List.getElem?_eq_getElem hil
   have e1 := eRows_get e0
   have hs := hsn i hil
   have hb := hsb i
   rw [List.length_take] at hb
   have hme := hm _ (List.getElem_mem hil)
   generalize hS1 : sizeE (es.take (i + 1)) = S1 at *
   generalize sizeE (es.take i) = S0 at *
   generalize es[i] = e at *
   by_cases hab : e.a = e.b
   ·rw [if_neg (by omega)] at hs
    rw [Int.add_zero] at hs
    refine zR (zc @hiI (zc @e1 (zc @hab (zc @eRows_len trivial)))) trivial trivial ?_
    refine ⟨i + 1,Weak.headF 1 37 [1, 3, 4] (zc @hS1 (zc @hs trivial)) (zV2 @iC_in @bC_inS),?_,?_⟩
    ·exact hil
    ·omega
   ·rw [if_pos hab] at hs
    have e3 : S0 + (1 - (n : Int)) + e.m = S1 + (1 - (n : Int)) := by omega
    refine zR (zc @hiI (zc @e1 (zc @hab (zc @e3 (zc @eRows_len trivial))))) trivial trivial ?_
    refine ⟨i + 1,Weak.headF 1 37 [1, 3, 4] (zc @hS1 trivial) (zV2 @iC_in @bC_inS),?_,?_⟩
    ·exact hil
    ·omega
  ·have hnl : ¬ (i : Int) < (es.length : Int) := by omega
   have ei : i = es.length := by omega
   rw [ei, hfin]
   rw [ei] at hnl
   have e4 : sizeE es + (1 - (n : Int)) = sizeE es - n + 1 := by omega
   rw [e4]
   generalize sizeE es - n + 1 = G at *
   refine zR (zc @hnl (zc @eRows_len trivial)) trivial trivial ?_
   simp [Rets, aret, Blk.cells, ty, Try.results22, ares, toT1, toT, borrow, borrow0, capCell, toTree0, tint]
def gapL (l : List Int) : Nat → List Int
 | 0 => []
 | k + 1 => if 1 ≤ k ∧ l.getD k 0 = l.getD (k - 1) 0 then gapL l k ++ [(k : Int)] else gapL l k
theorem gapL_len (l : List Int) : ∀ k, (gapL l k).length ≤ k
 | 0 => Nat.le_refl _
 | k + 1 => by have := gapL_len l k; unfold gapL; split <;> simp <;> omega
theorem gapL_pos {l : List Int} {k : Nat} (h1 : 1 ≤ k) (h : l.getD k 0 = l.getD (k - 1) 0) : gapL l (k + 1) = gapL l k ++ [(k : Int)] := by
 conv => lhs; unfold gapL
 rw [if_pos ⟨h1, h⟩]
theorem gapL_neg {l : List Int} {k : Nat} (h : ¬ l.getD k 0 = l.getD (k - 1) 0) : gapL l (k + 1) = gapL l k := by
 conv => lhs; unfold gapL
 rw [if_neg (fun q => h q.2)]
def farN (G : Int) : Nat := (max (2 * G - 1) 0).toNat + 1
theorem Missing_ok {n : Nat} {es : List E} (h : Sm5 n es) {v : Nat} (hv : v < n) (hG : sizeE es - n + 1 ≤ 6) : ACall Try.prog 36 [tG ⟨(n : Int), es⟩, tint v] (tints (gapL (alongL n es v (farN (sizeE es - n + 1))) (farN (sizeE es - n + 1)))) := by
 have h5 := h.n5
 have hz := h.sz
 have hGn := Gen39_ok n es h.g.hl h.g.hc
 have hf1 : farN (sizeE es - n + 1) ≤ 12 := by unfold farN; omega
 have hf2 : max (2 * (sizeE es - n + 1) - 1) 0 = ((farN (sizeE es - n + 1) : Nat) : Int) - 1 := by unfold farN; omega
 have hf0 : 1 ≤ farN (sizeE es - n + 1) := by unfold farN; omega
 have hA := Along_ok h hv hf1
 rw [← hf2] at hA
 have hGb : -20 ≤ sizeE es - n + 1 ∧ sizeE es - n + 1 ≤ 20 := by omega
 have hlen := alongL_len n es v (farN (sizeE es - n + 1))
 generalize alongL n es v (farN (sizeE es - n + 1)) = l at *
 generalize farN (sizeE es - n + 1) = N at *
 generalize sizeE es - n + 1 = G at *
 have hgl := fun k => gapL_len l k
 have hg1 : gapL l 1 = [] := by unfold gapL gapL; rw [if_neg (by omega)]
 refine ACall.of_body Try.func36 rfl (by kernel_rfl) ?_
 simp only [entry, Try.ntmps36, tG, tint]
 refine zU ?_
 refine zJ (stop 3) trivial (zc hGn (zc hA trivial)) trivial trivial ?_
 refine AWp.weak (Weak.opens ((fun t f => [f, f, f, f, f, f, t, f, f, f, f, f, f, f, f, f, f, f, f, f, f, f, f, f, f, f, f, f, f, f, f, f, f, f, f, f, f]) true false) 1 (by first | omega | simp)) ?_
 simp only [openS, openV, List.length_cons, List.length_nil, List.length_append, Nat.reduceAdd, List.cons_append, List.nil_append]
 refine zR trivial trivial trivial ?_
 refine AWp.loopS (α:=Nat) 37 (fun k=>[(5,.c (.slice (iRows l) .none)),(6,.c (.slice (iRows (gapL l k)) (.chain 1))),(7,.c (.int .i64 (k : Int)))]) (fun k=>[.box [.int .i64 (n : Int), .slice (eRows es) .none], .chain (gapL l k).length 1]) (fun k=>1 ≤ k ∧ k ≤ N) (fun k=>N - k) (1) (hk:=Weak.headL 2 37 [5, 6, 7] (zV2 @iC_in @bC_inS)) (h0:=?_) (round:=fun k hI=>?_)
 ·exact ⟨Nat.le_refl _, hf0⟩
 ·obtain ⟨hk1, hk⟩ := hI
  by_cases hkl : k < N
  ·have hkI : (k : Int) < (N : Int) := by omega
   have hg := iRows_get (getD_get (d := l) (i := k) (by omega))
   have hg' := iRows_get (getD_get (d := l) (i := k - 1) (by omega))
   have hkm : ((k : Int) - 1).toNat = k - 1 := by omega
   have hgn := hgl k
   have hp := gapL_pos (l := l) hk1
   have hn := gapL_neg (l := l) (k := k)
   clear hgl
   generalize l.getD k 0 = x at *
   generalize l.getD (k - 1) 0 = y at *
   generalize hS1 : gapL l (k + 1) = S1 at *
   generalize gapL l k = S0 at *
   by_cases hxy : x = y
   ·have hp' := hp hxy
    have hln : S1.length = S0.length + 1 := by rw [hp']; simp
    refine zRc (zc @hkI (zc @hg (zc @hg' (zc @hkm (zc @hxy (zc @iRows_len (zc @iRows_snoc (zc @hlen trivial)))))))) trivial @iRows_k' ?_
    rw [← hp']
    refine ⟨k + 1,Weak.headF 2 37 [5, 6, 7] (zc @hS1 (zc @hln trivial)) (zV2 @iC_in @bC_inS),?_,?_⟩
    ·exact ⟨by omega, hkl⟩
    ·omega
   ·have hn' := hn hxy
    refine zR (zc @hkI (zc @hg (zc @hg' (zc @hkm (zc @hxy (zc @iRows_len (zc @hlen trivial))))))) trivial trivial ?_
    refine ⟨k + 1,Weak.headF 2 37 [5, 6, 7] (zc @hS1 (zc @hn' trivial)) (zV2 @iC_in @bC_inS),?_,?_⟩
    ·exact ⟨by omega, hkl⟩
    ·omega
  ·have hnl : ¬ (k : Int) < (N : Int) := by omega
   have ek : k = N := by omega
   rw [ek]
   rw [ek] at hnl
   clear hgl
   generalize gapL l N = S0 at *
   refine zR (zc @hnl (zc @iRows_len (zc @hlen trivial))) trivial trivial ?_
   simp [Rets, aret, Blk.cells, ty, Try.results36, ares, toT1, toT, borrow, borrow0, capCell, toTree0, tints]
def vtxE (g : G) (v : Int) : Int := if joinedE g ≠ 0 then joinedE g else if 0 ≤ v ∧ v < g.n then 0 else 2
theorem given41_ok (g : G) (v : Int) (hl : g.es.length ≤ 40) : ACall Try.prog 32 [tG g, tint v] (tint (vtxE g v)) := by
 have hJ := refJoined_ok g hl
 have hV := Vertex_ok g v
 unfold vtxE
 by_cases hj : joinedE g = 0
 ·rw [if_neg (by omega)]
  rw [hj] at hJ
  obtain ⟨n, es⟩ := g
  by_cases hv : 0 ≤ v ∧ v < n
  ·rw [if_pos hv]
   have hV2 : ACall Try.prog 55 [tG ⟨n, es⟩, tint v] (tbool true) := by rw [decide_eq_true (show 0 ≤ v ∧ v < (⟨n, es⟩ : G).n from hv)] at hV; exact hV
   refine ACall.of_body Try.func32 rfl (by kernel_rfl) ?_
   simp only [entry, Try.ntmps32, tG, tint]
   refine zU ?_
   refine zR trivial (zc hJ (zc hV2 trivial)) trivial ?_
   simp [Rets, aret, Blk.cells, ty, Try.results32, ares, toT1, toT, borrow, borrow0, capCell, toTree0, tint]
  ·rw [if_neg hv]
   have hV2 : ACall Try.prog 55 [tG ⟨n, es⟩, tint v] (tbool false) := by rw [decide_eq_false (show ¬ (0 ≤ v ∧ v < (⟨n, es⟩ : G).n) from hv)] at hV; exact hV
   refine ACall.of_body Try.func32 rfl (by kernel_rfl) ?_
   simp only [entry, Try.ntmps32, tG, tint]
   refine zU ?_
   refine zR trivial (zc hJ (zc hV2 trivial)) trivial ?_
   simp [Rets, aret, Blk.cells, ty, Try.results32, ares, toT1, toT, borrow, borrow0, capCell, toTree0, tint]
 ·rw [if_pos hj]
  generalize joinedE g = e at *
  obtain ⟨n, es⟩ := g
  refine ACall.of_body Try.func32 rfl (by kernel_rfl) ?_
  simp only [entry, Try.ntmps32, tG, tint]
  refine zU ?_
  refine zR (zc @hj trivial) (zc hJ trivial) trivial ?_
  simp [Rets, aret, Blk.cells, ty, Try.results32, ares, toT1, toT, borrow, borrow0, capCell, toTree0, tint]
theorem vtx_zero {n : Nat} {es : List E} {v : Int} (h : vtxE ⟨(n : Int), es⟩ v = 0) : joinedE ⟨(n : Int), es⟩ = 0 ∧ ∃ k : Nat, v = k ∧ k < n := by
 unfold vtxE at h
 split at h
 ·rename_i h1; exact absurd h h1
 ·rename_i h1
  split at h
  ·rename_i h2
   simp only at h2
   exact ⟨by omega, v.toNat, by omega, by omega⟩
  ·cases h
theorem joined_zero {g : G} (h : joinedE g = 0) : checkG g = 0 ∧ connB g = true := by
 unfold joinedE at h
 split at h
 ·rename_i h1; exact absurd h h1
 ·rename_i h1
  split at h
  ·rename_i h2; exact ⟨by omega, h2⟩
  ·cases h
noncomputable def ranksR (n : Nat) (es : List E) (v N : Int) : List Int × Int := if vtxE ⟨(n : Int), es⟩ v ≠ 0 then ([], vtxE ⟨(n : Int), es⟩ v) else if N < 0 ∨ 12 < N then ([], 2) else (alongL n es v.toNat (N.toNat + 1), 0)
theorem RRanks_ok {n : Nat} {es : List E} (hl : es.length ≤ 40) (hs : joinedE ⟨(n : Int), es⟩ = 0 → Sm5 n es) (v N : Int) (hN : N ≤ 11 ∨ 12 < N) : ACall Try.prog 12 [tG ⟨(n : Int), es⟩, tint v, tint N] (.tup [tints (ranksR n es v N).1, tint (ranksR n es v N).2]) := by
 have hG := given41_ok ⟨(n : Int), es⟩ v hl
 by_cases hv : vtxE ⟨(n : Int), es⟩ v = 0
 ·obtain ⟨hj, k, rfl, hk⟩ := vtx_zero hv
  by_cases hNr : N < 0 ∨ 12 < N
  ·have e : ranksR n es k N = ([], 2) := by unfold ranksR; rw [if_neg (by omega), if_pos hNr]
   rw [e]
   rw [hv] at hG
   by_cases h1 : N < 0
   ·
    refine ACall.of_body Try.func12 rfl (by kernel_rfl) ?_
    simp only [entry, Try.ntmps12, tG, tint]
    refine zU ?_
    refine zR (zc @h1 trivial) (zc hG trivial) trivial ?_
    simp [Rets, aret, Blk.cells, ty, Try.results12, ares, toT1, toT, borrow, borrow0, capCell, toTree0, tint, tints, iRows]
   ·have h2 : N > 12 := by omega
    refine ACall.of_body Try.func12 rfl (by kernel_rfl) ?_
    simp only [entry, Try.ntmps12, tG, tint]
    refine zU ?_
    refine zR (zc @h1 (zc @h2 trivial)) (zc hG trivial) trivial ?_
    simp [Rets, aret, Blk.cells, ty, Try.results12, ares, toT1, toT, borrow, borrow0, capCell, toTree0, tint, tints, iRows]
  ·have e : ranksR n es k N = (alongL n es k (N.toNat + 1), 0) := by unfold ranksR; rw [if_neg (by omega), if_neg hNr]; rfl
   rw [e]
   rw [hv] at hG
   have h1 : ¬ N < 0 := by omega
   have h2 : ¬ N > 12 := by omega
   have hA := Along_ok (hs hj) hk (N := N.toNat + 1) (by omega)
   rw [show ((N.toNat + 1 : Nat) : Int) - 1 = N by omega] at hA
   generalize alongL n es k (N.toNat + 1) = l at *
   refine ACall.of_body Try.func12 rfl (by kernel_rfl) ?_
   simp only [entry, Try.ntmps12, tG, tint]
   refine zU ?_
   refine zR (zc @h1 (zc @h2 trivial)) (zc hG (zc hA trivial)) trivial ?_
   simp [Rets, aret, Blk.cells, ty, Try.results12, ares, toT1, toT, borrow, borrow0, capCell, toTree0, tint, tints]
 ·have e : ranksR n es v N = ([], vtxE ⟨(n : Int), es⟩ v) := by unfold ranksR; rw [if_pos hv]
  rw [e]
  generalize vtxE ⟨(n : Int), es⟩ v = er at *
  refine ACall.of_body Try.func12 rfl (by kernel_rfl) ?_
  simp only [entry, Try.ntmps12, tG, tint]
  refine zU ?_
  refine zR (zc @hv trivial) (zc hG trivial) trivial ?_
  simp [Rets, aret, Blk.cells, ty, Try.results12, ares, toT1, toT, borrow, borrow0, capCell, toTree0, tint, tints, iRows]
noncomputable def gapsL (n : Nat) (es : List E) (v : Nat) : List Int := gapL (alongL n es v (farN (sizeE es - n + 1))) (farN (sizeE es - n + 1))
noncomputable def gapsR (n : Nat) (es : List E) (v : Int) : List Int × Int := if vtxE ⟨(n : Int), es⟩ v ≠ 0 then ([], vtxE ⟨(n : Int), es⟩ v) else if 6 < sizeE es - n + 1 then ([], 12) else (gapsL n es v.toNat, 0)
theorem RGaps_ok {n : Nat} {es : List E} (hl : es.length ≤ 40) (hs : joinedE ⟨(n : Int), es⟩ = 0 → Sm5 n es) (v : Int) : ACall Try.prog 16 [tG ⟨(n : Int), es⟩, tint v] (.tup [tints (gapsR n es v).1, tint (gapsR n es v).2]) := by
 have hG := given41_ok ⟨(n : Int), es⟩ v hl
 by_cases hv : vtxE ⟨(n : Int), es⟩ v = 0
 ·obtain ⟨hj, k, rfl, hk⟩ := vtx_zero hv
  obtain ⟨hc, _⟩ := joined_zero hj
  have hGn := Gen39_ok n es hl hc
  rw [hv] at hG
  by_cases h6 : sizeE es - n + 1 > 6
  ·have e : gapsR n es k = ([], 12) := by unfold gapsR; rw [if_neg (by omega), if_pos h6]
   rw [e]
   generalize sizeE es - n + 1 = gg at *
   refine ACall.of_body Try.func16 rfl (by kernel_rfl) ?_
   simp only [entry, Try.ntmps16, tG, tint]
   refine zU ?_
   refine zR (zc @h6 trivial) (zc hG (zc hGn trivial)) trivial ?_
   simp [Rets, aret, Blk.cells, ty, Try.results16, ares, toT1, toT, borrow, borrow0, capCell, toTree0, tint, tints, iRows]
  ·have e : gapsR n es k = (gapsL n es k, 0) := by unfold gapsR; rw [if_neg (by omega), if_neg h6]; rfl
   rw [e]
   have hM := Missing_ok (hs hj) hk (by omega)
   have hgl : gapsL n es k = gapL (alongL n es k (farN (sizeE es - n + 1))) (farN (sizeE es - n + 1)) := rfl
   rw [← hgl] at hM
   clear hgl
   generalize gapsL n es k = l at *
   generalize sizeE es - n + 1 = gg at *
   refine ACall.of_body Try.func16 rfl (by kernel_rfl) ?_
   simp only [entry, Try.ntmps16, tG, tint]
   refine zU ?_
   refine zR (zc @h6 trivial) (zc hG (zc hGn (zc hM trivial))) trivial ?_
   simp [Rets, aret, Blk.cells, ty, Try.results16, ares, toT1, toT, borrow, borrow0, capCell, toTree0, tint, tints]
 ·have e : gapsR n es v = ([], vtxE ⟨(n : Int), es⟩ v) := by unfold gapsR; rw [if_pos hv]
  rw [e]
  generalize vtxE ⟨(n : Int), es⟩ v = er at *
  refine ACall.of_body Try.func16 rfl (by kernel_rfl) ?_
  simp only [entry, Try.ntmps16, tG, tint]
  refine zU ?_
  refine zR (zc @hv trivial) (zc hG trivial) trivial ?_
  simp [Rets, aret, Blk.cells, ty, Try.results16, ares, toT1, toT, borrow, borrow0, capCell, toTree0, tint, tints, iRows]
def halfT (G : Int) : Int := (G * (G + 1)).tdiv 2
noncomputable def wgt (n : Nat) (es : List E) (v : Nat) : Int := sumL (gapsL n es v) - halfT (sizeE es - n + 1)
noncomputable def weightR (n : Nat) (es : List E) (v : Int) : Int × Int := if (gapsR n es v).2 ≠ 0 then (0, (gapsR n es v).2) else (wgt n es v.toNat, 0)
theorem gapL_le (l : List Int) : ∀ k x, x ∈ gapL l k → 0 ≤ x ∧ x < k
 | 0, x, h => by simp [gapL] at h
 | k + 1, x, h => by
  unfold gapL at h
  split at h
  ·rcases List.mem_append.1 h with h | h
   ·have := gapL_le l k x h; omega
   ·rw [List.mem_singleton] at h; omega
  ·have := gapL_le l k x h; omega
theorem gapsL_bnd {n : Nat} {es : List E} {v : Nat} (hG : sizeE es - n + 1 ≤ 6) : (gapsL n es v).length ≤ 12 ∧ bndL 12 (gapsL n es v) := by
 have hf : farN (sizeE es - n + 1) ≤ 12 := by unfold farN; omega
 refine ⟨Nat.le_trans (gapL_len _ _) hf, fun u => ?_⟩
 by_cases hu : u < (gapsL n es v).length
 ·have := gapL_le (alongL n es v (farN (sizeE es - n + 1))) (farN (sizeE es - n + 1)) _ (List.getElem_mem (l := gapsL n es v) hu)
  rw [getD_get_eq hu]; omega
 ·rw [List.getD_eq_getElem?_getD, List.getElem?_eq_none (by omega)]; simp
theorem halfT_ok {G : Int} (h : 0 ≤ G ∧ G ≤ 6) : 2 * halfT G = G * (G + 1) ∧ 0 ≤ halfT G ∧ halfT G ≤ 21 ∧ 0 ≤ G * (G + 1) ∧ G * (G + 1) ≤ 42 ∧ (-G * (G + 1)).tdiv 2 = - halfT G := by
 have : G = 0 ∨ G = 1 ∨ G = 2 ∨ G = 3 ∨ G = 4 ∨ G = 5 ∨ G = 6 := by omega
 rcases this with rfl | rfl | rfl | rfl | rfl | rfl | rfl <;> decide
end Go.Proofs.Ytdhfgihnoimoaaa
