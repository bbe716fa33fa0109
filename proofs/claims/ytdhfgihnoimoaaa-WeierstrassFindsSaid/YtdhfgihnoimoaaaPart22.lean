/- A part of the proof. -/
import Derived.Test.YtdhfgihnoimoaaaPart21
import Derived.Test.YtdhfgihnoimoaaaLayerC
import Derived.Test.YtdhfgihnoimoaaaPart18
set_option linter.all false
set_option maxHeartbeats 4000000
set_option maxRecDepth 100000
namespace Go.Proofs.Ytdhfgihnoimoaaa
open Go.Sp
def stepF (t : Int) (v : Nat) (d : List Int) (x : Int × Int) : List Int := (d.set v (d.getD v 0 - x.2 * t)).set x.1.toNat ((d.set v (d.getD v 0 - x.2 * t)).getD x.1.toNat 0 + x.2 * t)
def fireV (es : List E) (t : Int) (v : Nat) (d : List Int) : List Int := (lnkL es v).foldl (stepF t v) d
def fireD (es : List E) (t : Int) (R : List Bool) : Nat → List Int → List Int
 | 0, d => d
 | k + 1, d => if R.getD k false = true then fireV es t k (fireD es t R k d) else fireD es t R k d
def fireS (t : Int) (R : List Bool) : Nat → List Int → List Int
 | 0, s => s
 | k + 1, s => if R.getD k false = true then (fireS t R k s).set k ((fireS t R k s).getD k 0 + t) else fireS t R k s
def bndL (K : Int) (d : List Int) : Prop := ∀ i, -K ≤ d.getD i 0 ∧ d.getD i 0 ≤ K
theorem bndL_set {K : Int} {d : List Int} (h : bndL K d) (i : Nat) {x : Int} (hx : -K ≤ x ∧ x ≤ K) : bndL K (d.set i x) := fun j => by
 rw [List.getD_eq_getElem?_getD, List.getElem?_set]
 by_cases e : i = j
 ·rw [if_pos e]
  split
  ·exact hx
  ·have := h i; simp only [Option.getD_none]; omega
 ·rw [if_neg e, ← List.getD_eq_getElem?_getD]; exact h j
theorem bndL_mono {K K' : Int} {d : List Int} (h : bndL K d) (hk : K ≤ K') : bndL K' d := fun i => by have := h i; omega
theorem stepF_len (t : Int) (v : Nat) (d : List Int) (x : Int × Int) : (stepF t v d x).length = d.length := by simp [stepF]
theorem fireV_take (es : List E) (t : Int) (v : Nat) (d : List Int) {j : Nat} {x : Int × Int} (h : (lnkL es v)[j]? = some x) : ((lnkL es v).take (j + 1)).foldl (stepF t v) d = stepF t v (((lnkL es v).take j).foldl (stepF t v) d) x := by
 rw [take_snoc h, List.foldl_append]; rfl
theorem foldF_len (t : Int) (v : Nat) (l : List (Int × Int)) (d : List Int) : (l.foldl (stepF t v) d).length = d.length := by
 induction l generalizing d with
 | nil => rfl
 | cons x l ih => rw [List.foldl_cons, ih, stepF_len]
theorem fireD_len (es : List E) (t : Int) (R : List Bool) (d : List Int) : ∀ k, (fireD es t R k d).length = d.length
 | 0 => rfl
 | k + 1 => by
  unfold fireD
  split
  ·unfold fireV; rw [foldF_len, fireD_len es t R d k]
  ·exact fireD_len es t R d k
theorem fireS_len (t : Int) (R : List Bool) (s : List Int) : ∀ k, (fireS t R k s).length = s.length
 | 0 => rfl
 | k + 1 => by
  unfold fireS
  split
  ·rw [List.length_set, fireS_len t R s k]
  ·exact fireS_len t R s k
theorem mul_bound {m t : Int} (hm : 0 ≤ m ∧ m ≤ 50) (ht : 0 ≤ t) : 0 ≤ m * t ∧ m * t ≤ 50 * t := ⟨Int.mul_nonneg hm.1 ht, Int.mul_le_mul_of_nonneg_right hm.2 ht⟩
theorem stepF_bnd {K t : Int} {v : Nat} {d : List Int} {x : Int × Int} (h : bndL K d) (hK : 0 ≤ K) (ht : 0 ≤ t) (hx : 0 ≤ x.2 ∧ x.2 ≤ 50) : bndL (K + 50 * t) (d.set v (d.getD v 0 - x.2 * t)) ∧ bndL (K + 100 * t) (stepF t v d x) := by
 have hb := mul_bound hx ht
 have h1 : bndL (K + 50 * t) (d.set v (d.getD v 0 - x.2 * t)) := bndL_set (bndL_mono h (by omega)) v (by have := h v; omega)
 refine ⟨h1, ?_⟩
 exact bndL_set (bndL_mono h1 (by omega)) _ (by have := h1 x.1.toNat; omega)
theorem foldF_bnd {K t : Int} {v : Nat} (hK : 0 ≤ K) (ht : 0 ≤ t) : ∀ {l : List (Int × Int)} {d : List Int}, bndL K d → (∀ x, x ∈ l → 0 ≤ x.2 ∧ x.2 ≤ 50) → bndL (K + 100 * t * l.length) (l.foldl (stepF t v) d) := by
 intro l
 refine snoc_ind (P := fun l => ∀ {d : List Int}, bndL K d → (∀ x, x ∈ l → 0 ≤ x.2 ∧ x.2 ≤ 50) → bndL (K + 100 * t * l.length) (l.foldl (stepF t v) d)) ?_ ?_ l
 ·intro d h _; simpa using h
 ·intro l x ih d h hl
  rw [List.foldl_append, List.foldl_cons, List.foldl_nil, List.length_append, List.length_singleton]
  have h1 := ih h fun y hy => hl y (by simp [hy])
  have hn : 0 ≤ 100 * t * (l.length : Int) := Int.mul_nonneg (by omega) (by omega)
  have h2 := (stepF_bnd (v := v) (x := x) h1 (by omega) ht (hl x (by simp))).2
  refine bndL_mono h2 ?_
  rw [Int.natCast_add, Int.mul_add]; simp only [Int.natCast_one, Int.mul_one]; omega
theorem fireD_bnd {es : List E} {K t : Int} {R : List Bool} {d : List Int} (hK : 0 ≤ K) (ht : 0 ≤ t) (hl : es.length ≤ 40) (hm : ∀ e, e ∈ es → 0 ≤ e.m ∧ e.m ≤ 50) (h : bndL K d) : ∀ k : Nat, bndL (K + 4000 * t * k) (fireD es t R k d)
 | 0 => by simpa [fireD] using h
 | k + 1 => by
  have ih := fireD_bnd (R := R) hK ht hl hm h k
  have hn : 0 ≤ 4000 * t * (k : Int) := Int.mul_nonneg (by omega) (by omega)
  have e : 4000 * t * ((k + 1 : Nat) : Int) = 4000 * t * k + 4000 * t := by rw [Int.natCast_add, Int.mul_add]; simp
  unfold fireD
  split
  ·have := foldF_bnd (v := k) (l := lnkL es k) (by omega) ht ih fun x hx => by
    obtain ⟨e, he, h1, _⟩ := lnk_mem hx
    have := hm e he; rw [h1]; exact this
   refine bndL_mono this ?_
   have hll := lnkL_len es k
   have : 100 * t * ((lnkL es k).length : Int) ≤ 100 * t * 40 := Int.mul_le_mul_of_nonneg_left (by omega) (by omega)
   omega
  ·exact bndL_mono ih (by omega)
theorem fireS_bnd {K t : Int} {R : List Bool} {s : List Int} (hK : 0 ≤ K) (ht : 0 ≤ t) (h : bndL K s) : ∀ k : Nat, bndL (K + t * k) (fireS t R k s)
 | 0 => by simpa [fireS] using h
 | k + 1 => by
  have ih := fireS_bnd (R := R) hK ht h k
  have hn : 0 ≤ t * (k : Int) := Int.mul_nonneg ht (by omega)
  have e : t * ((k + 1 : Nat) : Int) = t * k + t := by rw [Int.natCast_add, Int.mul_add]; simp
  unfold fireS
  split
  ·exact bndL_set (bndL_mono ih (by omega)) _ (by have := ih k; omega)
  ·exact bndL_mono ih (by omega)
theorem getD_get {d : List Int} {i : Nat} (h : i < d.length) : d[i]? = some (d.getD i 0) := by
 rw [List.getD_eq_getElem?_getD, List.getElem?_eq_getElem h]; rfl
theorem fireB_raw (n q : Nat) (es : List E) (d s : List Int) (R : List Bool) (h1 : 1 ≤ n) (h12 : n ≤ 12) (hd : d.length = n) (hs : s.length = n) (hR : R.length = n) (hl : es.length ≤ 40) (hm : ∀ e, e ∈ es → (0 ≤ e.a ∧ e.a < n) ∧ (0 ≤ e.b ∧ e.b < n) ∧ 0 ≤ e.m ∧ e.m ≤ 50) (t : Int) (ht : 0 ≤ t ∧ t ≤ 2 ^ 30)
  (hdb : bndL (2 ^ 40) d) (hsb : bndL (2 ^ 40) s) (hfd : bndL 2097152 (fireD es t R n d)) (hfs : bndL 2097152 (fireS t R n s)) :
  ACallH Try.prog 106 [.box [.int .i64 (n : Int), .slice (eRows es) .none], .ro [.int .i64 (n : Int), .slice (eRows es)], .box (iC d), .box (iC s), .roC [.tree (.int .i64 (n : Int)), .tree (.slice (eRows es)), .tree (.int .i64 (q : Int)), .ref 2 1 0 n n, .ref 3 1 0 n n, .tree (.int .i64 0)], .box (bC R), .box [.ref 5 1 0 n n]] [.c (.ptr 4 0), .c (.ref 5 1 0 n n), .c (.int .i64 t)] ([.box [.int .i64 (n : Int), .slice (eRows es) .none], .ro [.int .i64 (n : Int), .slice (eRows es)], .box (iC (fireD es t R n d)), .box (iC (fireS t R n s)), .roC [.tree (.int .i64 (n : Int)), .tree (.slice (eRows es)), .tree (.int .i64 (q : Int)), .ref 2 1 0 n n, .ref 3 1 0 n n, .tree (.int .i64 0)], .box (bC R), .box [.ref 5 1 0 n n]] ++ [.box [.ptr 4 0], .box [.int .i64 t]]) (.tup []) := by
 have hlk := fun H v h4 => links_h (H := H) n q es v h4
 have hI := fun (v : Nat) (hv : v < n) => links1_ok n es v (by omega) (fun e he => by have := hm e he; omega) (by omega)
 have hRn := bC_ne (d := R) (by intro e; rw [e] at hR; simp at hR; omega)
 have hne : ∀ {x : List Int}, x.length = n → iC x ≠ [] := fun {x} hx => iC_ne (by intro e; rw [e] at hx; simp at hx; omega)
 have hkb : ∀ (v : Nat) x, x ∈ lnkL es v → (0 ≤ x.1 ∧ x.1 < n) ∧ 0 ≤ x.2 ∧ x.2 ≤ 50 := fun v x hx => by
  obtain ⟨e, he, e1, _, e2⟩ := lnk_mem hx
  have := hm e he; rw [e1]
  rcases e2 with ⟨_, e2⟩ | ⟨_, e2⟩ <;> (rw [e2]; omega)
 have hbD := fun k => fireD_bnd (es := es) (R := R) (d := d) (t := t) (by decide) ht.1 hl (fun e he => (hm e he).2.2) hdb k
 have hbS := fun k => fireS_bnd (R := R) (s := s) (t := t) (by decide) ht.1 hsb k
 have hlD := fun k => (fireD_len es t R d k).trans hd
 have hlS := fun k => (fireS_len t R s k).trans hs
 simp only [List.cons_append, List.nil_append]
 refine ACallH.of_body Try.func106 rfl (by kernel_rfl) ?_
 simp only [entry, Try.ntmps106, List.length_cons, List.length_nil, Nat.reduceAdd, Nat.reduceSub, List.replicate_succ, List.replicate_zero, List.cons_append, List.nil_append]
 refine zR (zc @bC_len (zc @hR trivial)) trivial trivial ?_
 refine AWp.loopS (α:=Nat) 111 (fun k=>[(3,.c (.ptr 7 0)),(5,.c (.ptr 8 0)),(11,.c (.ref 5 1 0 n n)),(12,.c (.int .i64 (n : Int))),(13,.c (.int .i64 (k : Int)))]) (fun k=>[.box [.int .i64 (n : Int), .slice (eRows es) .none], .ro [.int .i64 (n : Int), .slice (eRows es)], .box (iC (fireD es t R k d)), .box (iC (fireS t R k s)), .roC [.tree (.int .i64 (n : Int)), .tree (.slice (eRows es)), .tree (.int .i64 (q : Int)), .ref 2 1 0 n n, .ref 3 1 0 n n, .tree (.int .i64 0)], .box (bC R), .box [.ref 5 1 0 n n], .box [.ptr 4 0], .box [.int .i64 t]]) (fun k=>k ≤ n) (fun k=>n - k) (0) (hk:=Weak.headL 9 111 [3, 5, 11, 12, 13] (zV3 @iC_in @bC_inS @stX_in)) (h0:=?_) (round:=fun k hI=>?_)
 ·exact Nat.zero_le _
 ·have hk : k ≤ n := hI
  clear hI
  by_cases hkl : k < n
  ·have hkI : (k : Int) < (n : Int) := by omega
   have hRg := getD_bool (R := R) (i := k) (by omega)
   have hb := bC_get hRg
   have hD1 : fireD es t R (k + 1) d = if R.getD k false = true then fireV es t k (fireD es t R k d) else fireD es t R k d := rfl
   have hS1 : fireS t R (k + 1) s = if R.getD k false = true then (fireS t R k s).set k ((fireS t R k s).getD k 0 + t) else fireS t R k s := rfl
   have bD := hbD k
   have bS := hbS k k
   have lD := hlD k
   have lS := hlS k
   have lS1 := hlS (k + 1)
   have tk : 0 ≤ t * (k : Int) ∧ t * (k : Int) ≤ 2 ^ 30 * 12 := ⟨Int.mul_nonneg ht.1 (by omega), Int.mul_le_mul ht.2 (by omega) (by omega) (by omega)⟩
   have tk4 : 4000 * t * (k : Int) = 4000 * (t * k) := Int.mul_assoc _ _ _
   generalize hDk : fireD es t R k d = dk at *
   generalize hSk : fireS t R k s = sk at *
   cases hbk : R.getD k false with
   | false =>
    rw [hbk] at hD1 hS1 hb
    rw [if_neg (by simp)] at hD1 hS1
    refine zR (zc @hkI (zc @hb (zc @bC_len (zc @hR (zc @Nat.zero_add trivial))))) trivial trivial ?_
    refine ⟨k + 1,Weak.headF 9 111 [3, 5, 11, 12, 13] (zc @hD1 (zc @hS1 trivial)) (zV3 @iC_in @bC_inS @stX_in),?_,?_⟩
    ·exact hkl
    ·omega
   | true =>
    rw [hbk] at hD1 hS1 hb
    rw [if_pos rfl] at hD1 hS1
    have hs0 := iC_get (getD_get (d := sk) (i := k) (by omega))
    have hset := iC_set sk k (sk.getD k 0 + t)
    rw [← hS1] at hset
    generalize hS1e : fireS t R (k + 1) s = sk1 at *
    generalize sk.getD k 0 = sv at *
    have hIk := hI k hkl
    have hkbk := hkb k
    repeat' (first|((first|(refine zT ?_;intro K' hK')|(refine zG ?_ ?_<;>(try refine zH ?_)<;>intro hguard<;>(try exact zX)<;>try intro K' hK'))<;>((try simp +contextual only [go_sem, hkI, hb, bC_len, hR, iC_len, lS, hs0, hset, Int.toNat_natCast, Nat.mul_one, Nat.zero_add, ofT, ofT1, ofTree, List.map_cons, List.map_nil]);(repeat' first|(with_reducible refine hK' _ _ ?_;clear hK' K')|((with_reducible first|refine ⟨_,_,hlk _ _ rfl,?_⟩|refine ⟨_,hlk _ _ rfl,?_⟩);try simp +contextual only [go_sem, hkI, hb, bC_len, hR, iC_len, lS, hs0, hset, Int.toNat_natCast, Nat.mul_one, Nat.zero_add, ofT, ofT1, ofTree, List.map_cons, List.map_nil])|exact zY|with_reducible refine And.intro ?_ ?_|(with_reducible intro hpath;try exact zP)|(refine hK' _ _ ?_;clear hK' K')|fail);try refine zS ?_))|(refine zE ?_;refine hK _ _ ?_;clear hK K)|(refine zN ?_;try refine zS ?_)|refine zA ?_|(refine zB ?_;intro K hK)|(refine zC ?_ ?_<;>(try refine zH ?_)<;>intro hcond<;>try exact zX)|fail)
    have hneJ : ∀ l, iC (List.foldl (stepF t k) dk l) ≠ [] := fun l => hne ((foldF_len t k l dk).trans lD)
    refine AWp.weak (Weak.head (m := 10) (by omega) ((fun t f => [f, f, f, t, f, t, t, f, f, f, f, t, t, t, f, f, f, f, f, f, f, f, f, f, f, f, f, f, f, f, f, f, t, f, f, f, f, f, f, f, f, f, f, f, f, f, f, f, f, f, f, f, f, f, f, f, f, f, f, f, f, f, f, f, f, f, f, f, f, f, f, f, f, f, f, f, f, f, f, f, f, f, f, f, f, f, f, f, f, f, f, f, f, f, f, f, f, f, f, f, f, f, f, f, f, f, f, f, f, f, f]) true false) (by first | rfl | simp [mask]) (by first | rfl | simp) (by (repeat' (first | exact valsIn_nil _ | refine valsIn_cons ?_ ?_ | refine cellsIn_cons ?_ ?_ | exact cellsIn_nil _ | exact True.intro | (show _ < _; omega) | (intro c hc; cases hc; done) | (intro c hc; simp only [List.mem_cons, List.not_mem_nil, or_false] at hc; subst hc; first | exact True.intro | (show _ < _; omega)) | (intro c hc; simp only [List.mem_cons, List.not_mem_nil, or_false] at hc; rcases hc with rfl | rfl <;> first | exact True.intro | (show _ < _; omega))))) (by (repeat' (first | exact valsIn_nil _ | exact blksIn_nil _ | exact cellsIn_nil _ | refine And.intro ?_ ?_ | refine valsIn_cons ?_ ?_ | refine blksIn_cons ?_ ?_ | refine cellsIn_cons ?_ ?_ | exact True.intro | exact iC_in | exact bC_inS | exact stX_in (by omega) | (show _ < _; omega) | exact cellsIn_map (fun _ => True.intro) | (intro c hc; cases hc; done) | (intro c hc; simp only [List.mem_cons, List.not_mem_nil, or_false] at hc; subst hc; first | exact True.intro | exact iC_in | exact bC_inS | exact stX_in (by omega) | (show _ < _; omega)) | (intro c hc; simp only [List.mem_cons, List.not_mem_nil, or_false] at hc; rcases hc with rfl | rfl <;> first | exact True.intro | exact iC_in | exact bC_inS | exact stX_in (by omega) | (show _ < _; omega)))))) (AWp.rangeFunc (fun j H => H = [.box [.int .i64 (n : Int), .slice (eRows es) .none], .ro [.int .i64 (n : Int), .slice (eRows es)], .box (iC (((lnkL es k).take j).foldl (stepF t k) dk)), .box (iC sk1), .roC [.tree (.int .i64 (n : Int)), .tree (.slice (eRows es)), .tree (.int .i64 (q : Int)), .ref 2 1 0 n n, .ref 3 1 0 n n, .tree (.int .i64 0)], .box (bC R), .box [.ref 5 1 0 n n], .box [.ptr 4 0], .box [.int .i64 t], .box [.int .i64 (k : Int)]] ∧ (True)) (fun _ _ => False) 10 rfl (hIk) (itemsK_ps rfl) (by omega) (by (repeat' (first | exact valsIn_nil _ | refine valsIn_cons ?_ ?_ | refine cellsIn_cons ?_ ?_ | exact cellsIn_nil _ | exact True.intro | (show _ < _; omega) | (intro c hc; cases hc; done) | (intro c hc; simp only [List.mem_cons, List.not_mem_nil, or_false] at hc; subst hc; first | exact True.intro | (show _ < _; omega)) | (intro c hc; simp only [List.mem_cons, List.not_mem_nil, or_false] at hc; rcases hc with rfl | rfl <;> first | exact True.intro | (show _ < _; omega))))) (by rintro _ _ ⟨rfl, -⟩; simp [hne lS1, hRn, hneJ]) (fun _ _ h => h.elim) ?_ (fun l j ts H hts hI => ?_) (fun H hI => ?_) (fun e H h => h.elim))
    ·exact ⟨rfl, trivial⟩
    ·obtain ⟨rfl, -⟩ := hI
     obtain ⟨x, hx, rfl⟩ := itemsK_inv hts
     have hj : j < (lnkL es k).length := (List.getElem?_eq_some_iff.1 hx).1
     have hxb := hkbk x (List.mem_of_getElem? hx)
     have hnx := fireV_take es t k dk hx
     have lj := (foldF_len t k ((lnkL es k).take j) dk).trans lD
     have hbj := foldF_bnd (v := k) (K := 2 ^ 40 + 4000 * t * k) (t := t) (by omega) ht.1 (l := (lnkL es k).take j) bD fun y hy => (hkbk y (List.mem_of_mem_take hy)).2
     have hll := lnkL_len es k
     have hjn : 100 * t * (((lnkL es k).take j).length : Int) ≤ 100 * t * 40 := Int.mul_le_mul_of_nonneg_left (by rw [List.length_take]; omega) (by omega)
     have hbj2 := bndL_mono (K' := 2 ^ 50) hbj (by omega)
     generalize ((lnkL es k).take j).foldl (stepF t k) dk = dj at *
     generalize hnj : ((lnkL es k).take (j + 1)).foldl (stepF t k) dk = dj1 at *
     obtain ⟨u, m⟩ := x
     obtain ⟨⟨u1, u2⟩, hm1⟩ := hxb
     obtain ⟨w, rfl⟩ := Int.eq_ofNat_of_zero_le u1
     unfold stepF at hnx
     have hmt := mul_bound hm1 ht.1
     simp only [Int.toNat_natCast] at hnx hmt u2
     have g1 := iC_get (getD_get (d := dj) (i := k) (by omega))
     have b1 := hbj2 k
     generalize dj.getD k 0 = dv at *
     obtain ⟨mt, hmte⟩ : ∃ mt, m * t = mt := ⟨_, rfl⟩
     rw [hmte] at hmt hnx
     have e1 := iC_set dj k (dv - mt)
     have hbj3 : bndL (2 ^ 51) (dj.set k (dv - mt)) := bndL_set (bndL_mono hbj2 (by omega)) k (by omega)
     have l3 : (dj.set k (dv - mt)).length = n := by rw [List.length_set]; exact lj
     have g2 := iC_get (getD_get (d := dj.set k (dv - mt)) (i := w) (by omega))
     have b2 := hbj3 w
     generalize (dj.set k (dv - mt)).getD w 0 = du at *
     have e2 := iC_set (dj.set k (dv - mt)) w (du + mt)
     rw [← hnx] at e2
     generalize hdj' : dj.set k (dv - mt) = dj' at *
     have hwI : (w : Int) < (n : Int) := u2
     simp only [mask, setPs, List.zip_cons_cons, List.zip_nil_right, List.zip_nil_left, List.foldl_cons, List.foldl_nil, List.set_cons_succ, List.set_cons_zero, ofT, ofT1, ofTree, List.map_cons, List.map_nil, ofT, ofT1, toT, toT1, toTree0, tint, tbool, tpair, tG, tpairs, tints, tbools]
     refine zR (zc @hkI (zc @hwI (zc @g1 (zc @g2 (zc @e1 (zc @e2 (zc @hmte (zc @iC_len (zc @lj (zc @l3 (zc @Nat.zero_add trivial))))))))))) trivial trivial ?_
     refine ⟨⟨_, _⟩, Weak.head2 (m := 10) (by decide) ((fun t f => [f, f, f, f, f, f, f, f, f, f, f, f, f, f, f, f, f, f, f, f, f, f, f, f, f, f, f, f, f, f, f, f, f, f, f, f, f, f, f, f, f, f, f, f, f, f, f, f, f, f, f, f, f, f, f, f, f, f, f, f, f, f, f, f, f, f, f, f, f, f, f, f, f, f, f, f, f, f, f, f, f, f, f, f, f, f, f, f, f, f, f, f, f, f, f, f, f, f, f, f, f, f, f, f, f, f, f, f, f, f, f]) true false) rfl rfl (zV3 @iC_in @bC_inS @stX_in), ?_, ?_⟩
     ·rw [hnj]; rfl
     ·trivial
    ·obtain ⟨rfl, -⟩ := hI
     rw [itemsK_len, List.take_length]
     have hfin : (lnkL es k).foldl (stepF t k) dk = fireD es t R (k + 1) d := by rw [hD1]; rfl
     rw [hfin]
     simp only [mask]
     refine zR trivial trivial trivial ?_
     refine ⟨k + 1,Weak.headF 9 111 [3, 5, 11, 12, 13] (zc @hS1e trivial) (zV3 @iC_in @bC_inS @stX_in),?_,?_⟩
     ·exact hkl
     ·omega
  ·have ek : k = n := by omega
   have hnl : ¬ (k : Int) < (n : Int) := by omega
   subst ek
   have lD := hlD k
   have lS := hlS k
   generalize fireD es t R k d = dk at *
   generalize fireS t R k s = sk at *
   refine zR (zc @hnl (zc @iC_len (zc @lD trivial))) trivial trivial ?_
   refine AWp.loopS (α:=Nat) 111 (fun v=>[(3,.c (.ptr 7 0)),(5,.c (.ptr 8 0)),(64,.c (.int .i64 (k : Int))),(65,.c (.int .i64 (v : Int)))]) (fun v=>[.box [.int .i64 (k : Int), .slice (eRows es) .none], .ro [.int .i64 (k : Int), .slice (eRows es)], .box (iC dk), .box (iC sk), .roC [.tree (.int .i64 (k : Int)), .tree (.slice (eRows es)), .tree (.int .i64 (q : Int)), .ref 2 1 0 k k, .ref 3 1 0 k k, .tree (.int .i64 0)], .box (bC R), .box [.ref 5 1 0 k k], .box [.ptr 4 0], .box [.int .i64 t]]) (fun v=>v ≤ k) (fun v=>k - v) (0) (hk:=Weak.headL 9 111 [3, 5, 64, 65] (zV3 @iC_in @bC_inS @stX_in)) (h0:=?_) (round:=fun v hI=>?_)
   ·exact Nat.zero_le _
   ·have hv : v ≤ k := hI
    clear hI
    by_cases hvl : v < k
    ·have hvI : (v : Int) < (k : Int) := by omega
     have g1 := iC_get (getD_get (d := dk) (i := v) (by omega))
     have g2 := iC_get (getD_get (d := sk) (i := v) (by omega))
     have b1 := hfd v
     have b2 := hfs v
     generalize dk.getD v 0 = dv at *
     generalize sk.getD v 0 = sv at *
     have hmx : ¬ (2097152 : Int) < max (max (max dv (-dv)) sv) (-sv) := by omega
     refine zR (zc @hvI (zc @g1 (zc @g2 (zc @hmx (zc @iC_len (zc @lD (zc @lS (zc @Nat.zero_add trivial)))))))) trivial trivial ?_
     refine ⟨v + 1,Weak.headN 9 111 [3, 5, 64, 65] (zV3 @iC_in @bC_inS @stX_in),?_,?_⟩
     ·exact hvl
     ·omega
    ·have hvn : ¬ (v : Int) < (k : Int) := by omega
     refine zR (zc @hvn trivial) trivial trivial ?_
     simp [RetsH, aretH, ares, noTup, Try.results106]
theorem fireB_ok (n q : Nat) (es : List E) (d s : List Int) (R : List Bool) (h1 : 1 ≤ n) (h12 : n ≤ 12) (hd : d.length = n) (hs : s.length = n) (hR : R.length = n) (hl : es.length ≤ 40) (hm : ∀ e, e ∈ es → (0 ≤ e.a ∧ e.a < n) ∧ (0 ≤ e.b ∧ e.b < n) ∧ 0 ≤ e.m ∧ e.m ≤ 50) (t : Int) (ht : 0 ≤ t ∧ t ≤ 2 ^ 30)
  (hdb : bndL (2 ^ 40) d) (hsb : bndL (2 ^ 40) s) (hfd : bndL 2097152 (fireD es t R n d)) (hfs : bndL 2097152 (fireS t R n s)) :
  ACallH Try.prog 106 [.box [.int .i64 (n : Int), .slice (eRows es) .none], .ro [.int .i64 (n : Int), .slice (eRows es)], .box (iC d), .box (iC s), .roC [.tree (.int .i64 (n : Int)), .tree (.slice (eRows es)), .tree (.int .i64 (q : Int)), .ref 2 1 0 n n, .ref 3 1 0 n n, .tree (.int .i64 0)], .box (bC R), .box [.ref 5 1 0 n n]] [.c (.ptr 4 0), .c (.ref 5 1 0 n n), .c (.int .i64 t)] ([.box [.int .i64 (n : Int), .slice (eRows es) .none], .ro [.int .i64 (n : Int), .slice (eRows es)], .box (iC (fireD es t R n d)), .box (iC (fireS t R n s)), .roC [.tree (.int .i64 (n : Int)), .tree (.slice (eRows es)), .tree (.int .i64 (q : Int)), .ref 2 1 0 n n, .ref 3 1 0 n n, .tree (.int .i64 0)], .box (bC R), .box [.ref 5 1 0 n n]]) (.tup []) :=
 (fireB_raw n q es d s R h1 h12 hd hs hR hl hm t ht hdb hsb hfd hfs).trim (Nat.le_refl _) (show valIn _ (.tup []) from fun x hx => by cases hx) (stB_in n q es _ _ R)
theorem fireD_raw (n q : Nat) (es : List E) (d s : List Int) (R : List Bool) (h1 : 1 ≤ n) (h12 : n ≤ 12) (hd : d.length = n) (hs : s.length = n) (hR : R.length = n) (hl : es.length ≤ 40) (hm : ∀ e, e ∈ es → (0 ≤ e.a ∧ e.a < n) ∧ (0 ≤ e.b ∧ e.b < n) ∧ 0 ≤ e.m ∧ e.m ≤ 50) (t : Int) (ht : 0 ≤ t ∧ t ≤ 2 ^ 30)
  (hdb : bndL (2 ^ 40) d) (hsb : bndL (2 ^ 40) s) (hfd : bndL 2097152 (fireD es t R n d)) (hfs : bndL 2097152 (fireS t R n s)) :
  ACallH Try.prog 106 [.box [.int .i64 (n : Int), .slice (eRows es) .none], .ro [.int .i64 (n : Int), .slice (eRows es)], .box (iC d), .box (iC s), .roC [.tree (.int .i64 (n : Int)), .tree (.slice (eRows es)), .tree (.int .i64 (q : Int)), .ref 2 1 0 n n, .ref 3 1 0 n n, .tree (.int .i64 0)], .box [.slice (bRows R) .none]] [.c (.ptr 4 0), .c (.slice (bRows R) .none), .c (.int .i64 t)] ([.box [.int .i64 (n : Int), .slice (eRows es) .none], .ro [.int .i64 (n : Int), .slice (eRows es)], .box (iC (fireD es t R n d)), .box (iC (fireS t R n s)), .roC [.tree (.int .i64 (n : Int)), .tree (.slice (eRows es)), .tree (.int .i64 (q : Int)), .ref 2 1 0 n n, .ref 3 1 0 n n, .tree (.int .i64 0)], .box [.slice (bRows R) .none]] ++ [.box [.ptr 4 0], .box [.int .i64 t]]) (.tup []) := by
 have hlk := fun H v h4 => links_h (H := H) n q es v h4
 have hI := fun (v : Nat) (hv : v < n) => links1_ok n es v (by omega) (fun e he => by have := hm e he; omega) (by omega)
 have hRn := bC_ne (d := R) (by intro e; rw [e] at hR; simp at hR; omega)
 have hne : ∀ {x : List Int}, x.length = n → iC x ≠ [] := fun {x} hx => iC_ne (by intro e; rw [e] at hx; simp at hx; omega)
 have hkb : ∀ (v : Nat) x, x ∈ lnkL es v → (0 ≤ x.1 ∧ x.1 < n) ∧ 0 ≤ x.2 ∧ x.2 ≤ 50 := fun v x hx => by
  obtain ⟨e, he, e1, _, e2⟩ := lnk_mem hx
  have := hm e he; rw [e1]
  rcases e2 with ⟨_, e2⟩ | ⟨_, e2⟩ <;> (rw [e2]; omega)
 have hbD := fun k => fireD_bnd (es := es) (R := R) (d := d) (t := t) (by decide) ht.1 hl (fun e he => (hm e he).2.2) hdb k
 have hbS := fun k => fireS_bnd (R := R) (s := s) (t := t) (by decide) ht.1 hsb k
 have hlD := fun k => (fireD_len es t R d k).trans hd
 have hlS := fun k => (fireS_len t R s k).trans hs
 simp only [List.cons_append, List.nil_append]
 refine ACallH.of_body Try.func106 rfl (by kernel_rfl) ?_
 simp only [entry, Try.ntmps106, List.length_cons, List.length_nil, Nat.reduceAdd, Nat.reduceSub, List.replicate_succ, List.replicate_zero, List.cons_append, List.nil_append]
 refine zR (zc @bRows_len (zc @hR trivial)) trivial trivial ?_
 refine AWp.loopS (α:=Nat) 111 (fun k=>[(3,.c (.ptr 6 0)),(5,.c (.ptr 7 0)),(11,.c (.slice (bRows R) .none)),(12,.c (.int .i64 (n : Int))),(13,.c (.int .i64 (k : Int)))]) (fun k=>[.box [.int .i64 (n : Int), .slice (eRows es) .none], .ro [.int .i64 (n : Int), .slice (eRows es)], .box (iC (fireD es t R k d)), .box (iC (fireS t R k s)), .roC [.tree (.int .i64 (n : Int)), .tree (.slice (eRows es)), .tree (.int .i64 (q : Int)), .ref 2 1 0 n n, .ref 3 1 0 n n, .tree (.int .i64 0)], .box [.slice (bRows R) .none], .box [.ptr 4 0], .box [.int .i64 t]]) (fun k=>k ≤ n) (fun k=>n - k) (0) (hk:=Weak.headL 8 111 [3, 5, 11, 12, 13] (zV3 @iC_in @bC_inS @stX_in)) (h0:=?_) (round:=fun k hI=>?_)
 ·exact Nat.zero_le _
 ·have hk : k ≤ n := hI
  clear hI
  by_cases hkl : k < n
  ·have hkI : (k : Int) < (n : Int) := by omega
   have hRg := getD_bool (R := R) (i := k) (by omega)
   have hb := bRows_get hRg
   have hD1 : fireD es t R (k + 1) d = if R.getD k false = true then fireV es t k (fireD es t R k d) else fireD es t R k d := rfl
   have hS1 : fireS t R (k + 1) s = if R.getD k false = true then (fireS t R k s).set k ((fireS t R k s).getD k 0 + t) else fireS t R k s := rfl
   have bD := hbD k
   have bS := hbS k k
   have lD := hlD k
   have lS := hlS k
   have lS1 := hlS (k + 1)
   have tk : 0 ≤ t * (k : Int) ∧ t * (k : Int) ≤ 2 ^ 30 * 12 := ⟨Int.mul_nonneg ht.1 (by omega), Int.mul_le_mul ht.2 (by omega) (by omega) (by omega)⟩
   have tk4 : 4000 * t * (k : Int) = 4000 * (t * k) := Int.mul_assoc _ _ _
   generalize hDk : fireD es t R k d = dk at *
   generalize hSk : fireS t R k s = sk at *
   cases hbk : R.getD k false with
   | false =>
    rw [hbk] at hD1 hS1 hb
    rw [if_neg (by simp)] at hD1 hS1
    refine zR (zc @hkI (zc @hb (zc @bRows_len (zc @hR (zc @Nat.zero_add trivial))))) trivial trivial ?_
    refine ⟨k + 1,Weak.headF 8 111 [3, 5, 11, 12, 13] (zc @hD1 (zc @hS1 trivial)) (zV3 @iC_in @bC_inS @stX_in),?_,?_⟩
    ·exact hkl
    ·omega
   | true =>
    rw [hbk] at hD1 hS1 hb
    rw [if_pos rfl] at hD1 hS1
    have hs0 := iC_get (getD_get (d := sk) (i := k) (by omega))
    have hset := iC_set sk k (sk.getD k 0 + t)
    rw [← hS1] at hset
    generalize hS1e : fireS t R (k + 1) s = sk1 at *
    generalize sk.getD k 0 = sv at *
    have hIk := hI k hkl
    have hkbk := hkb k
    repeat' (first|((first|(refine zT ?_;intro K' hK')|(refine zG ?_ ?_<;>(try refine zH ?_)<;>intro hguard<;>(try exact zX)<;>try intro K' hK'))<;>((try simp +contextual only [go_sem, hkI, hb, bRows_len, hR, iC_len, lS, hs0, hset, Int.toNat_natCast, Nat.mul_one, Nat.zero_add, ofT, ofT1, ofTree, List.map_cons, List.map_nil]);(repeat' first|(with_reducible refine hK' _ _ ?_;clear hK' K')|((with_reducible first|refine ⟨_,_,hlk _ _ rfl,?_⟩|refine ⟨_,hlk _ _ rfl,?_⟩);try simp +contextual only [go_sem, hkI, hb, bRows_len, hR, iC_len, lS, hs0, hset, Int.toNat_natCast, Nat.mul_one, Nat.zero_add, ofT, ofT1, ofTree, List.map_cons, List.map_nil])|exact zY|with_reducible refine And.intro ?_ ?_|(with_reducible intro hpath;try exact zP)|(refine hK' _ _ ?_;clear hK' K')|fail);try refine zS ?_))|(refine zE ?_;refine hK _ _ ?_;clear hK K)|(refine zN ?_;try refine zS ?_)|refine zA ?_|(refine zB ?_;intro K hK)|(refine zC ?_ ?_<;>(try refine zH ?_)<;>intro hcond<;>try exact zX)|fail)
    have hneJ : ∀ l, iC (List.foldl (stepF t k) dk l) ≠ [] := fun l => hne ((foldF_len t k l dk).trans lD)
    refine AWp.weak (Weak.head (m := 9) (by omega) ((fun t f => [f, f, f, t, f, t, t, f, f, f, f, t, t, t, f, f, f, f, f, f, f, f, f, f, f, f, f, f, f, f, f, f, t, f, f, f, f, f, f, f, f, f, f, f, f, f, f, f, f, f, f, f, f, f, f, f, f, f, f, f, f, f, f, f, f, f, f, f, f, f, f, f, f, f, f, f, f, f, f, f, f, f, f, f, f, f, f, f, f, f, f, f, f, f, f, f, f, f, f, f, f, f, f, f, f, f, f, f, f, f, f]) true false) (by first | rfl | simp [mask]) (by first | rfl | simp) (by (repeat' (first | exact valsIn_nil _ | refine valsIn_cons ?_ ?_ | refine cellsIn_cons ?_ ?_ | exact cellsIn_nil _ | exact True.intro | (show _ < _; omega) | (intro c hc; cases hc; done) | (intro c hc; simp only [List.mem_cons, List.not_mem_nil, or_false] at hc; subst hc; first | exact True.intro | (show _ < _; omega)) | (intro c hc; simp only [List.mem_cons, List.not_mem_nil, or_false] at hc; rcases hc with rfl | rfl <;> first | exact True.intro | (show _ < _; omega))))) (by (repeat' (first | exact valsIn_nil _ | exact blksIn_nil _ | exact cellsIn_nil _ | refine And.intro ?_ ?_ | refine valsIn_cons ?_ ?_ | refine blksIn_cons ?_ ?_ | refine cellsIn_cons ?_ ?_ | exact True.intro | exact iC_in | exact bC_inS | exact stX_in (by omega) | (show _ < _; omega) | exact cellsIn_map (fun _ => True.intro) | (intro c hc; cases hc; done) | (intro c hc; simp only [List.mem_cons, List.not_mem_nil, or_false] at hc; subst hc; first | exact True.intro | exact iC_in | exact bC_inS | exact stX_in (by omega) | (show _ < _; omega)) | (intro c hc; simp only [List.mem_cons, List.not_mem_nil, or_false] at hc; rcases hc with rfl | rfl <;> first | exact True.intro | exact iC_in | exact bC_inS | exact stX_in (by omega) | (show _ < _; omega)))))) (AWp.rangeFunc (fun j H => H = [.box [.int .i64 (n : Int), .slice (eRows es) .none], .ro [.int .i64 (n : Int), .slice (eRows es)], .box (iC (((lnkL es k).take j).foldl (stepF t k) dk)), .box (iC sk1), .roC [.tree (.int .i64 (n : Int)), .tree (.slice (eRows es)), .tree (.int .i64 (q : Int)), .ref 2 1 0 n n, .ref 3 1 0 n n, .tree (.int .i64 0)], .box [.slice (bRows R) .none], .box [.ptr 4 0], .box [.int .i64 t], .box [.int .i64 (k : Int)]] ∧ (True)) (fun _ _ => False) 9 rfl (hIk) (itemsK_ps rfl) (by omega) (by (repeat' (first | exact valsIn_nil _ | refine valsIn_cons ?_ ?_ | refine cellsIn_cons ?_ ?_ | exact cellsIn_nil _ | exact True.intro | (show _ < _; omega) | (intro c hc; cases hc; done) | (intro c hc; simp only [List.mem_cons, List.not_mem_nil, or_false] at hc; subst hc; first | exact True.intro | (show _ < _; omega)) | (intro c hc; simp only [List.mem_cons, List.not_mem_nil, or_false] at hc; rcases hc with rfl | rfl <;> first | exact True.intro | (show _ < _; omega))))) (by rintro _ _ ⟨rfl, -⟩; simp [hne lS1, hRn, hneJ]) (fun _ _ h => h.elim) ?_ (fun l j ts H hts hI => ?_) (fun H hI => ?_) (fun e H h => h.elim))
    ·exact ⟨rfl, trivial⟩
    ·obtain ⟨rfl, -⟩ := hI
     obtain ⟨x, hx, rfl⟩ := itemsK_inv hts
     have hj : j < (lnkL es k).length := (List.getElem?_eq_some_iff.1 hx).1
     have hxb := hkbk x (List.mem_of_getElem? hx)
     have hnx := fireV_take es t k dk hx
     have lj := (foldF_len t k ((lnkL es k).take j) dk).trans lD
     have hbj := foldF_bnd (v := k) (K := 2 ^ 40 + 4000 * t * k) (t := t) (by omega) ht.1 (l := (lnkL es k).take j) bD fun y hy => (hkbk y (List.mem_of_mem_take hy)).2
     have hll := lnkL_len es k
     have hjn : 100 * t * (((lnkL es k).take j).length : Int) ≤ 100 * t * 40 := Int.mul_le_mul_of_nonneg_left (by rw [List.length_take]; omega) (by omega)
     have hbj2 := bndL_mono (K' := 2 ^ 50) hbj (by omega)
     generalize ((lnkL es k).take j).foldl (stepF t k) dk = dj at *
     generalize hnj : ((lnkL es k).take (j + 1)).foldl (stepF t k) dk = dj1 at *
     obtain ⟨u, m⟩ := x
     obtain ⟨⟨u1, u2⟩, hm1⟩ := hxb
     obtain ⟨w, rfl⟩ := Int.eq_ofNat_of_zero_le u1
     unfold stepF at hnx
     have hmt := mul_bound hm1 ht.1
     simp only [Int.toNat_natCast] at hnx hmt u2
     have g1 := iC_get (getD_get (d := dj) (i := k) (by omega))
     have b1 := hbj2 k
     generalize dj.getD k 0 = dv at *
     obtain ⟨mt, hmte⟩ : ∃ mt, m * t = mt := ⟨_, rfl⟩
     rw [hmte] at hmt hnx
     have e1 := iC_set dj k (dv - mt)
     have hbj3 : bndL (2 ^ 51) (dj.set k (dv - mt)) := bndL_set (bndL_mono hbj2 (by omega)) k (by omega)
     have l3 : (dj.set k (dv - mt)).length = n := by rw [List.length_set]; exact lj
     have g2 := iC_get (getD_get (d := dj.set k (dv - mt)) (i := w) (by omega))
     have b2 := hbj3 w
     generalize (dj.set k (dv - mt)).getD w 0 = du at *
     have e2 := iC_set (dj.set k (dv - mt)) w (du + mt)
     rw [← hnx] at e2
     generalize hdj' : dj.set k (dv - mt) = dj' at *
     have hwI : (w : Int) < (n : Int) := u2
     simp only [mask, setPs, List.zip_cons_cons, List.zip_nil_right, List.zip_nil_left, List.foldl_cons, List.foldl_nil, List.set_cons_succ, List.set_cons_zero, ofT, ofT1, ofTree, List.map_cons, List.map_nil, ofT, ofT1, toT, toT1, toTree0, tint, tbool, tpair, tG, tpairs, tints, tbools]
     refine zR (zc @hkI (zc @hwI (zc @g1 (zc @g2 (zc @e1 (zc @e2 (zc @hmte (zc @iC_len (zc @lj (zc @l3 (zc @Nat.zero_add trivial))))))))))) trivial trivial ?_
     refine ⟨⟨_, _⟩, Weak.head2 (m := 9) (by decide) ((fun t f => [f, f, f, f, f, f, f, f, f, f, f, f, f, f, f, f, f, f, f, f, f, f, f, f, f, f, f, f, f, f, f, f, f, f, f, f, f, f, f, f, f, f, f, f, f, f, f, f, f, f, f, f, f, f, f, f, f, f, f, f, f, f, f, f, f, f, f, f, f, f, f, f, f, f, f, f, f, f, f, f, f, f, f, f, f, f, f, f, f, f, f, f, f, f, f, f, f, f, f, f, f, f, f, f, f, f, f, f, f, f, f]) true false) rfl rfl (zV3 @iC_in @bC_inS @stX_in), ?_, ?_⟩
     ·rw [hnj]; rfl
     ·trivial
    ·obtain ⟨rfl, -⟩ := hI
     rw [itemsK_len, List.take_length]
     have hfin : (lnkL es k).foldl (stepF t k) dk = fireD es t R (k + 1) d := by rw [hD1]; rfl
     rw [hfin]
     simp only [mask]
     refine zR trivial trivial trivial ?_
     refine ⟨k + 1,Weak.headF 8 111 [3, 5, 11, 12, 13] (zc @hS1e trivial) (zV3 @iC_in @bC_inS @stX_in),?_,?_⟩
     ·exact hkl
     ·omega
  ·have ek : k = n := by omega
   have hnl : ¬ (k : Int) < (n : Int) := by omega
   subst ek
   have lD := hlD k
   have lS := hlS k
   generalize fireD es t R k d = dk at *
   generalize fireS t R k s = sk at *
   refine zR (zc @hnl (zc @iC_len (zc @lD trivial))) trivial trivial ?_
   refine AWp.loopS (α:=Nat) 111 (fun v=>[(3,.c (.ptr 6 0)),(5,.c (.ptr 7 0)),(64,.c (.int .i64 (k : Int))),(65,.c (.int .i64 (v : Int)))]) (fun v=>[.box [.int .i64 (k : Int), .slice (eRows es) .none], .ro [.int .i64 (k : Int), .slice (eRows es)], .box (iC dk), .box (iC sk), .roC [.tree (.int .i64 (k : Int)), .tree (.slice (eRows es)), .tree (.int .i64 (q : Int)), .ref 2 1 0 k k, .ref 3 1 0 k k, .tree (.int .i64 0)], .box [.slice (bRows R) .none], .box [.ptr 4 0], .box [.int .i64 t]]) (fun v=>v ≤ k) (fun v=>k - v) (0) (hk:=Weak.headL 8 111 [3, 5, 64, 65] (zV3 @iC_in @bC_inS @stX_in)) (h0:=?_) (round:=fun v hI=>?_)
   ·exact Nat.zero_le _
   ·have hv : v ≤ k := hI
    clear hI
    by_cases hvl : v < k
    ·have hvI : (v : Int) < (k : Int) := by omega
     have g1 := iC_get (getD_get (d := dk) (i := v) (by omega))
     have g2 := iC_get (getD_get (d := sk) (i := v) (by omega))
     have b1 := hfd v
     have b2 := hfs v
     generalize dk.getD v 0 = dv at *
     generalize sk.getD v 0 = sv at *
     have hmx : ¬ (2097152 : Int) < max (max (max dv (-dv)) sv) (-sv) := by omega
     refine zR (zc @hvI (zc @g1 (zc @g2 (zc @hmx (zc @iC_len (zc @lD (zc @lS (zc @Nat.zero_add trivial)))))))) trivial trivial ?_
     refine ⟨v + 1,Weak.headN 8 111 [3, 5, 64, 65] (zV3 @iC_in @bC_inS @stX_in),?_,?_⟩
     ·exact hvl
     ·omega
    ·have hvn : ¬ (v : Int) < (k : Int) := by omega
     refine zR (zc @hvn trivial) trivial trivial ?_
     simp [RetsH, aretH, ares, noTup, Try.results106]
theorem fireD_ok (n q : Nat) (es : List E) (d s : List Int) (R : List Bool) (h1 : 1 ≤ n) (h12 : n ≤ 12) (hd : d.length = n) (hs : s.length = n) (hR : R.length = n) (hl : es.length ≤ 40) (hm : ∀ e, e ∈ es → (0 ≤ e.a ∧ e.a < n) ∧ (0 ≤ e.b ∧ e.b < n) ∧ 0 ≤ e.m ∧ e.m ≤ 50) (t : Int) (ht : 0 ≤ t ∧ t ≤ 2 ^ 30)
  (hdb : bndL (2 ^ 40) d) (hsb : bndL (2 ^ 40) s) (hfd : bndL 2097152 (fireD es t R n d)) (hfs : bndL 2097152 (fireS t R n s)) :
  ACallH Try.prog 106 [.box [.int .i64 (n : Int), .slice (eRows es) .none], .ro [.int .i64 (n : Int), .slice (eRows es)], .box (iC d), .box (iC s), .roC [.tree (.int .i64 (n : Int)), .tree (.slice (eRows es)), .tree (.int .i64 (q : Int)), .ref 2 1 0 n n, .ref 3 1 0 n n, .tree (.int .i64 0)], .box [.slice (bRows R) .none]] [.c (.ptr 4 0), .c (.slice (bRows R) .none), .c (.int .i64 t)] ([.box [.int .i64 (n : Int), .slice (eRows es) .none], .ro [.int .i64 (n : Int), .slice (eRows es)], .box (iC (fireD es t R n d)), .box (iC (fireS t R n s)), .roC [.tree (.int .i64 (n : Int)), .tree (.slice (eRows es)), .tree (.int .i64 (q : Int)), .ref 2 1 0 n n, .ref 3 1 0 n n, .tree (.int .i64 0)], .box [.slice (bRows R) .none]]) (.tup []) :=
 (fireD_raw n q es d s R h1 h12 hd hs hR hl hm t ht hdb hsb hfd hfs).trim (Nat.le_refl _) (show valIn _ (.tup []) from fun x hx => by cases hx) (stD_in n q es _ _ R)
def jnB (es : List E) (R : List Bool) (v : Nat) : Int := joinL (fun u => R.getD u.toNat false) (lnkL es v)
def mayB (es : List E) (d : List Int) (R : List Bool) (v : Nat) : Bool := !R.getD v false && decide (d.getD v 0 < jnB es R v)
def passB (es : List E) (d : List Int) (R : List Bool) : Nat → List Bool × Bool
 | 0 => (R, false)
 | k + 1 => if mayB es d (passB es d R k).1 k = true then ((passB es d R k).1.set k true, true) else passB es d R k
theorem passB_succ (es : List E) (d : List Int) (R : List Bool) (k : Nat) : passB es d R (k + 1) = if mayB es d (passB es d R k).1 k = true then ((passB es d R k).1.set k true, true) else passB es d R k := rfl
structure Burn (es : List E) (d : List Int) (q : Nat) (R : List Bool) (L : List Nat) : Prop where
 nd : L.Nodup
 mem : ∀ v, R.getD v false = true ↔ v ∈ L
 hd : L[0]? = some q
 ord : ∀ i v, 1 ≤ i → L[i]? = some v → d.getD v 0 < joinL (fun u => decide (u.toNat ∈ L.take i)) (lnkL es v)
def BurnE (es : List E) (d : List Int) (q : Nat) (R : List Bool) : Prop := ∃ L, Burn es d q R L
theorem getD_set_true (R : List Bool) (k v : Nat) (hk : k < R.length) : (R.set k true).getD v false = if v = k then true else R.getD v false := by
 rw [List.getD_eq_getElem?_getD, List.getElem?_set]
 by_cases e : k = v
 ·subst e; rw [if_pos rfl, if_pos hk, if_pos rfl]; rfl
 ·rw [if_neg e, if_neg (fun h => e h.symm), List.getD_eq_getElem?_getD]
theorem Burn.step {es : List E} {d : List Int} {q : Nat} {R : List Bool} {L : List Nat} (h : Burn es d q R L) {k : Nat} (hk : k < R.length) (hm : mayB es d R k = true) : Burn es d q (R.set k true) (L ++ [k]) := by
 unfold mayB at hm
 simp only [Bool.and_eq_true, Bool.not_eq_true', decide_eq_true_eq] at hm
 have hkL : k ∉ L := fun hx => by rw [(h.mem k).2 hx] at hm; cases hm.1
 have hlen : 0 < L.length := (List.getElem?_eq_some_iff.1 h.hd).1
 refine ⟨List.nodup_append.2 ⟨h.nd, by simp, fun a ha b hb => by simp at hb; subst hb; rintro rfl; exact hkL ha⟩, fun v => ?_, by rw [List.getElem?_append_left hlen]; exact h.hd, fun i v hi hv => ?_⟩
 ·rw [getD_set_true R k v hk, List.mem_append, List.mem_singleton]
  by_cases e : v = k
  ·rw [if_pos e]; simp [e]
  ·rw [if_neg e, h.mem]; simp [e]
 ·by_cases hil : i < L.length
  ·rw [List.getElem?_append_left hil] at hv
   rw [List.take_append_of_le_length (by omega)]; exact h.ord i v hi hv
  ·have hi2 := (List.getElem?_eq_some_iff.1 hv).1
   simp at hi2
   have hie : i = L.length := by omega
   subst hie
   rw [List.getElem?_append_right (Nat.le_refl _)] at hv
   simp at hv; subst hv
   rw [List.take_append_of_le_length (Nat.le_refl _), List.take_length]
   have e : (fun u : Int => decide (u.toNat ∈ L)) = fun u => R.getD u.toNat false := by
    funext u
    rw [Bool.eq_iff_iff, decide_eq_true_eq, h.mem]
   rw [e]; exact hm.2
theorem passB_len (es : List E) (d : List Int) (R : List Bool) : ∀ k, (passB es d R k).1.length = R.length
 | 0 => rfl
 | k + 1 => by
  rw [passB_succ]
  split
  ·simp only [List.length_set]; exact passB_len es d R k
  ·exact passB_len es d R k
theorem passB_burn {es : List E} {d : List Int} {q : Nat} {R : List Bool} (h : BurnE es d q R) : ∀ k, k ≤ R.length → BurnE es d q (passB es d R k).1
 | 0, _ => h
 | k + 1, hk => by
  obtain ⟨L, hL⟩ := passB_burn h k (by omega)
  rw [passB_succ]
  split
  ·rename_i hm
   exact ⟨_, hL.step (by rw [passB_len]; omega) hm⟩
  ·exact ⟨L, hL⟩
def cntF (R : List Bool) : Nat := R.countP fun b => !b
theorem cntF_set : ∀ {R : List Bool} {k : Nat}, R[k]? = some false → cntF (R.set k true) + 1 = cntF R
 | [], k, h => by simp at h
 | b :: R, 0, h => by simp at h; subst h; simp [cntF]
 | b :: R, k + 1, h => by
  have := cntF_set (R := R) (k := k) (by simpa using h)
  unfold cntF at this ⊢
  simp only [List.set_cons_succ, List.countP_cons]
  omega
theorem passB_cnt (es : List E) (d : List Int) (R : List Bool) : ∀ k, k ≤ R.length → cntF (passB es d R k).1 + (if (passB es d R k).2 = true then 1 else 0) ≤ cntF R ∧ ((passB es d R k).2 = false → (passB es d R k).1 = R ∧ ∀ v, v < k → mayB es d R v = false)
 | 0, _ => ⟨by simp [passB], fun _ => ⟨rfl, fun v hv => by omega⟩⟩
 | k + 1, hk => by
  obtain ⟨h1, h2⟩ := passB_cnt es d R k (by omega)
  rw [passB_succ]
  split
  ·rename_i hm
   refine ⟨?_, fun h => by cases h⟩
   have hm2 := hm
   unfold mayB at hm2
   simp only [Bool.and_eq_true, Bool.not_eq_true', decide_eq_true_eq] at hm2
   have := cntF_set (R := (passB es d R k).1) (k := k) (by rw [getD_bool (by rw [passB_len]; omega), hm2.1])
   simp only [if_true]
   split at h1 <;> omega
  ·rename_i hm
   rw [Bool.not_eq_true] at hm
   refine ⟨h1, fun h => ?_⟩
   obtain ⟨e, h3⟩ := h2 h
   refine ⟨e, fun v hv => ?_⟩
   by_cases hvk : v = k
   ·subst hvk; rw [e] at hm; exact hm
   ·exact h3 v (by omega)
def someL (R : List Bool) (k : Nat) : Bool := (List.range k).any fun v => !R.getD v false
def negK (R : List Bool) (n k : Nat) : List Bool := (List.range n).map fun v => decide (v < k) && !R.getD v false
theorem negK_len (R : List Bool) (n k : Nat) : (negK R n k).length = n := by simp [negK]
theorem negK_get (R : List Bool) (n k i : Nat) : (negK R n k)[i]? = if i < n then some (decide (i < k) && !R.getD i false) else none := by
 unfold negK
 rw [List.getElem?_map]
 by_cases h : i < n
 ·rw [if_pos h, List.getElem?_range h]; rfl
 ·rw [if_neg h, List.getElem?_eq_none (by simpa using h)]; rfl
theorem negK_set (R : List Bool) {n k : Nat} (hk : k < n) : (negK R n k).set k (!R.getD k false) = negK R n (k + 1) := by
 apply List.ext_getElem?
 intro i
 rw [List.getElem?_set, negK_len, negK_get, negK_get]
 by_cases e : k = i
 ·subst e
  rw [if_pos rfl, if_pos hk, if_pos hk, decide_eq_true (show k < k + 1 by omega)]; rfl
 ·rw [if_neg e]
  by_cases h : i < n
  ·rw [if_pos h, if_pos h, decide_eq_decide.2 (show i < k ↔ i < k + 1 by omega)]
  ·rw [if_neg h, if_neg h]
theorem someL_succ (R : List Bool) (k : Nat) : someL R (k + 1) = (someL R k || !R.getD k false) := by
 unfold someL; rw [List.range_succ, List.any_append]; simp
theorem bC_trees (R : List Bool) : (bC R).mapM toTree0 = some (R.map Tree.bool) := by
 induction R with
 | nil => rfl
 | cons b R ih =>
  unfold bC at ih ⊢
  rw [List.map_cons, List.mapM_cons, ih]; rfl
theorem bRows_k {R : List Bool} {r : List Tree} (h : r ∈ bRows R) : r.length = 1 := by
 unfold bRows at h
 obtain ⟨b, _, rfl⟩ := List.mem_map.1 h; rfl
theorem bRows_pre (R : List Bool) (i : Nat) (r : List Tree) (m : Nat) (x : Tree) (h1 : (bRows R)[i]? = some r) (h2 : r[m]? = some x) : (R.map Tree.bool)[i * 1 + m]? = some x := by
 unfold bRows at h1
 rw [List.getElem?_map] at h1
 obtain ⟨b, hb, rfl⟩ := Option.map_eq_some_iff.1 h1
 cases m with
 | zero => simp at h2; subst h2; rw [Nat.mul_one, Nat.add_zero, List.getElem?_map, hb]; rfl
 | succ m => simp at h2
inductive BEnd (es : List E) (d : List Int) (n : Nat) : List Bool → List Bool → Prop where
 | stop {R : List Bool} : (passB es d R n).2 = false → BEnd es d n R R
 | go {R B : List Bool} : (passB es d R n).2 = true → BEnd es d n (passB es d R n).1 B → BEnd es d n R B
theorem bEnd {es : List E} {d : List Int} {n q : Nat} : ∀ (f : Nat) (R : List Bool), cntF R ≤ f → R.length = n → BurnE es d q R → ∃ B, BEnd es d n R B ∧ B.length = n ∧ BurnE es d q B ∧ ∀ v, v < n → mayB es d B v = false := by
 intro f
 induction f with
 | zero =>
  intro R hc hl hb
  obtain ⟨h1, h2⟩ := passB_cnt es d R n (by omega)
  cases hp : (passB es d R n).2 with
  | false => exact ⟨R, .stop hp, hl, hb, (h2 hp).2⟩
  | true => rw [hp] at h1; simp at h1; omega
 | succ f ih =>
  intro R hc hl hb
  obtain ⟨h1, h2⟩ := passB_cnt es d R n (by omega)
  cases hp : (passB es d R n).2 with
  | false => exact ⟨R, .stop hp, hl, hb, (h2 hp).2⟩
  | true =>
   rw [hp] at h1
   simp only [if_true] at h1
   obtain ⟨B, b1, b2⟩ := ih (passB es d R n).1 (by omega) (by rw [passB_len]; exact hl) (passB_burn hb n (by omega))
   exact ⟨B, .go hp b1, b2⟩
def initB (n q : Nat) : List Bool := (List.replicate n false).set q true
theorem initB_burn {es : List E} {d : List Int} {n q : Nat} (hq : q < n) : BurnE es d q (initB n q) := by
 refine ⟨[q], by simp, fun v => ?_, rfl, fun i v hi hv => by have := (List.getElem?_eq_some_iff.1 hv).1; simp at this; omega⟩
 unfold initB
 rw [getD_set_true _ q v (by simpa using hq), List.mem_singleton]
 by_cases e : v = q
 ·rw [if_pos e]; simp [e]
 ·rw [if_neg e]
  rw [List.getD_eq_getElem?_getD, List.getElem?_replicate]
  split <;> simp [e]
theorem unburnt_raw (n q : Nat) (es : List E) (d s : List Int) (h1 : 1 ≤ n) (h12 : n ≤ 12) (hq : q < n) (hd : d.length = n) (hs : s.length = n) (hl : es.length ≤ 40) (hm : ∀ e, e ∈ es → (0 ≤ e.a ∧ e.a < n) ∧ (0 ≤ e.b ∧ e.b < n) ∧ 0 ≤ e.m ∧ e.m ≤ 50) (B : List Bool) (hB : BEnd es d n (initB n q) B) (hBl : B.length = n) :
  ∃ X, ACallH Try.prog 110 [.box [.int .i64 (n : Int), .slice (eRows es) .none], .ro [.int .i64 (n : Int), .slice (eRows es)], .box (iC d), .box (iC s), .roC [.tree (.int .i64 (n : Int)), .tree (.slice (eRows es)), .tree (.int .i64 (q : Int)), .ref 2 1 0 n n, .ref 3 1 0 n n, .tree (.int .i64 0)]] [.c (.ptr 4 0)] ([.box [.int .i64 (n : Int), .slice (eRows es) .none], .ro [.int .i64 (n : Int), .slice (eRows es)], .box (iC d), .box (iC s), .roC [.tree (.int .i64 (n : Int)), .tree (.slice (eRows es)), .tree (.int .i64 (q : Int)), .ref 2 1 0 n n, .ref 3 1 0 n n, .tree (.int .i64 0)]] ++ X) (.tup [.c (.slice (bRows (negK B n n)) .none), .c (.bool (someL B n))]) := by
 refine ⟨[.box (bC B), .box [.ref 5 1 0 n n], .ro ((negK B n n).map Tree.bool)], ?_⟩
 have hqI : (q : Int) < (n : Int) := by omega
 have hdn : d ≠ [] := by intro e; rw [e] at hd; simp at hd; omega
 have hsn : s ≠ [] := by intro e; rw [e] at hs; simp at hs; omega
 have hli : (initB n q).length = n := by simp [initB]
 have hkb : ∀ (v : Nat) u k, (u, k) ∈ lnkL es v → ∃ w : Nat, u = w ∧ w < n := fun v u k hx => by
  obtain ⟨e, he, e1, _, e2⟩ := lnk_mem hx
  have := hm e he
  simp only at e2
  exact ⟨u.toNat, by omega, by omega⟩
 have hJ : ∀ (R : List Bool) (v : Nat), R.length = n → v < n → ACallH Try.prog 108 [.box [.int .i64 (n : Int), .slice (eRows es) .none], .ro [.int .i64 (n : Int), .slice (eRows es)], .box (iC d), .box (iC s), .roC [.tree (.int .i64 (n : Int)), .tree (.slice (eRows es)), .tree (.int .i64 (q : Int)), .ref 2 1 0 n n, .ref 3 1 0 n n, .tree (.int .i64 0)], .box (bC R), .box [.ref 5 1 0 n n]] [.c (.ptr 4 0), .c (.int .i64 (v : Int)), .c (.fn 123 [.ptr 6 0])] [.box [.int .i64 (n : Int), .slice (eRows es) .none], .ro [.int .i64 (n : Int), .slice (eRows es)], .box (iC d), .box (iC s), .roC [.tree (.int .i64 (n : Int)), .tree (.slice (eRows es)), .tree (.int .i64 (q : Int)), .ref 2 1 0 n n, .ref 3 1 0 n n, .tree (.int .i64 0)], .box (bC R), .box [.ref 5 1 0 n n]] (.c (.int .i64 (jnB es R v))) := fun R v hR hv =>
  joinsB_ok n q es d s R hdn hsn (by intro e; rw [e] at hR; simp at hR; omega) (by omega) (fun e he => by have := hm e he; omega) v (by omega) _ _ fun X u k hx => by
   obtain ⟨w, rfl, hw⟩ := hkb v u k hx
   exact clU_ok n R hR rfl rfl w hw
 have hr0 := bC_set (List.replicate n false) q true
 have hrl : (List.replicate n false : List Bool).length = n := by simp
 have hr0' : (bC (List.replicate n false)).set q (.bool true) = bC (initB n q) := hr0
 simp only [List.cons_append, List.nil_append]
 refine ACallH.of_body Try.func110 rfl (by kernel_rfl) ?_
 simp only [entry, Try.ntmps110, List.length_cons, List.length_nil, Nat.reduceAdd, Nat.reduceSub, List.replicate_succ, List.replicate_zero, List.cons_append, List.nil_append]
 refine zR (zc @hqI (zc @made_bools (zc @hr0' (zc @hrl (zc @bC_len (zc @Nat.zero_add trivial)))))) trivial trivial ?_
 refine AWp.loopS (α:=(List Bool × Bool)) 85 (fun w=>[(0,.c (.ptr 4 0)),(4,.c (.ptr 6 0)),(5,.c (.fn 123 [.ptr 6 0])),(6,.c (.bool w.2))]) (fun w=>[.box [.int .i64 (n : Int), .slice (eRows es) .none], .ro [.int .i64 (n : Int), .slice (eRows es)], .box (iC d), .box (iC s), .roC [.tree (.int .i64 (n : Int)), .tree (.slice (eRows es)), .tree (.int .i64 (q : Int)), .ref 2 1 0 n n, .ref 3 1 0 n n, .tree (.int .i64 0)], .box (bC w.1), .box [.ref 5 1 0 n n]]) (fun w=>w.1.length = n ∧ (w.2 = true → BEnd es d n w.1 B) ∧ (w.2 = false → w.1 = B)) (fun w=>2 * cntF w.1 + (if w.2 = true then 1 else 0)) ((initB n q, true)) (hk:=Weak.headL 7 85 [0, 4, 5, 6] (zV3 @iC_in @bC_inS @stX_in)) (h0:=?_) (round:=fun w hI=>?_)
 ·exact ⟨hli, fun _ => hB, fun h => by cases h⟩
 ·obtain ⟨R, ag⟩ := w
  obtain ⟨hRl, hI1, hI2⟩ := hI
  simp only at hRl hI1 hI2 ⊢
  cases ag with
  | true =>
   have hE := hI1 rfl
   clear hI1 hI2
   have hcnt := passB_cnt es d R n (by omega)
   refine zR trivial trivial trivial ?_
   refine AWp.loopS (α:=Nat) 85 (fun k=>[(0,.c (.ptr 4 0)),(4,.c (.ptr 6 0)),(5,.c (.fn 123 [.ptr 6 0])),(6,.c (.bool (passB es d R k).2)),(29,.c (.int .i64 (n : Int))),(30,.c (.int .i64 (k : Int)))]) (fun k=>[.box [.int .i64 (n : Int), .slice (eRows es) .none], .ro [.int .i64 (n : Int), .slice (eRows es)], .box (iC d), .box (iC s), .roC [.tree (.int .i64 (n : Int)), .tree (.slice (eRows es)), .tree (.int .i64 (q : Int)), .ref 2 1 0 n n, .ref 3 1 0 n n, .tree (.int .i64 0)], .box (bC (passB es d R k).1), .box [.ref 5 1 0 n n]]) (fun k=>k ≤ n) (fun k=>n - k) (0) (hk:=Weak.headL 7 85 [0, 4, 5, 6, 29, 30] (zV3 @iC_in @bC_inS @stX_in)) (h0:=?_) (round:=fun k hI=>?_)
   ·exact Nat.zero_le _
   ·have hk : k ≤ n := hI
    clear hI
    by_cases hkl : k < n
    ·have hkI : (k : Int) < (n : Int) := by omega
     have hps := passB_succ es d R k
     have hpl := passB_len es d R k
     rw [hRl] at hpl
     have hJk := hJ (passB es d R k).1 k hpl hkl
     generalize passB es d R k = p at *
     generalize hp1 : passB es d R (k + 1) = p1 at *
     obtain ⟨Rk, ak⟩ := p
     simp only at hpl hJk hps ⊢
     have hg := bC_get (getD_bool (R := Rk) (i := k) (by omega))
     have hds := iC_get (getD_get (d := d) (i := k) (by omega))
     have hst := bC_set Rk k true
     unfold mayB at hps
     generalize d.getD k 0 = dv at *
     generalize jnB es Rk k = jv at *
     cases hbk : Rk.getD k false with
     | true =>
      rw [hbk] at hps hg
      simp only [Bool.not_true, Bool.false_and] at hps
      rw [if_neg (by simp)] at hps
      refine zR (zc @hkI (zc @hg (zc @bC_len (zc @hpl (zc @Nat.zero_add trivial))))) trivial trivial ?_
      refine ⟨k + 1,Weak.headF 7 85 [0, 4, 5, 6, 29, 30] (zc @hp1 (zc @hps trivial)) (zV3 @iC_in @bC_inS @stX_in),?_,?_⟩
      ·exact hkl
      ·omega
     | false =>
      rw [hbk] at hps hg
      simp only [Bool.not_false, Bool.true_and, decide_eq_true_eq] at hps
      by_cases hlt : dv < jv
      ·rw [if_pos hlt] at hps
       refine zJ trivial (zc @hkI (zc @hg (zc @hds (zc @hlt (zc @hst (zc @bC_len (zc @iC_len (zc @hd (zc @hpl (zc @Nat.zero_add trivial)))))))))) trivial (zc hJk trivial) trivial ?_
       refine ⟨k + 1,Weak.headF 7 85 [0, 4, 5, 6, 29, 30] (zc @hp1 (zc @hps trivial)) (zV3 @iC_in @bC_inS @stX_in),?_,?_⟩
       ·exact hkl
       ·omega
      ·rw [if_neg hlt] at hps
       refine zJ trivial (zc @hkI (zc @hg (zc @hds (zc @hlt (zc @bC_len (zc @iC_len (zc @hd (zc @hpl (zc @Nat.zero_add trivial))))))))) trivial (zc hJk trivial) trivial ?_
       refine ⟨k + 1,Weak.headF 7 85 [0, 4, 5, 6, 29, 30] (zc @hp1 (zc @hps trivial)) (zV3 @iC_in @bC_inS @stX_in),?_,?_⟩
       ·exact hkl
       ·omega
    ·have hnl : ¬ (k : Int) < (n : Int) := by omega
     have ek : k = n := by omega
     have hpl := passB_len es d R n
     rw [ek] at *
     refine zR (zc @hnl trivial) trivial trivial ?_
     refine ⟨passB es d R n,Weak.headN 7 85 [0, 4, 5, 6] (zV3 @iC_in @bC_inS @stX_in),?_,?_⟩
     ·refine ⟨hpl.trans hRl, fun h => ?_, fun h => ?_⟩
      ·cases hE with
       | stop hp => rw [hp] at h; cases h
       | go hp hE' => exact hE'
      ·cases hE with
       | stop hp => exact (hcnt.2 hp).1
       | go hp hE' => rw [hp] at h; cases h
     ·have h1 := hcnt.1
      cases hp2 : (passB es d R n).2 <;> simp [hp2] at h1 ⊢ <;> omega
  | false =>
   have hRB := hI2 rfl
   subst hRB
   clear hI1 hI2 hB
   have hn0 : negK R n 0 = List.replicate n false := by
    apply List.ext_getElem
    ·simp [negK]
    ·intro i h1 h2; simp [negK]
   have hs0 : someL R 0 = false := rfl
   refine zR (zc @made_bools (zc @bC_len (zc @hRl trivial))) trivial trivial ?_
   rw [← hn0]
   refine AWp.loopS (α:=Nat) 85 (fun k=>[(0,.c (.ptr 4 0)),(4,.c (.ptr 6 0)),(8,.c (.ref 7 1 0 n n)),(9,.c (.bool (someL R k))),(63,.c (.int .i64 (n : Int))),(64,.c (.int .i64 (k : Int)))]) (fun k=>[.box [.int .i64 (n : Int), .slice (eRows es) .none], .ro [.int .i64 (n : Int), .slice (eRows es)], .box (iC d), .box (iC s), .roC [.tree (.int .i64 (n : Int)), .tree (.slice (eRows es)), .tree (.int .i64 (q : Int)), .ref 2 1 0 n n, .ref 3 1 0 n n, .tree (.int .i64 0)], .box (bC R), .box [.ref 5 1 0 n n], .box (bC (negK R n k))]) (fun k=>k ≤ n) (fun k=>n - k) (0) (hk:=Weak.headL 8 85 [0, 4, 8, 9, 63, 64] (zV3 @iC_in @bC_inS @stX_in)) (h0:=?_) (round:=fun k hI=>?_)
   ·exact Nat.zero_le _
   ·have hk : k ≤ n := hI
    clear hI
    by_cases hkl : k < n
    ·have hkI : (k : Int) < (n : Int) := by omega
     have hg := bC_get (getD_bool (R := R) (i := k) (by omega))
     have hns := negK_set R hkl
     have hnl := negK_len R n k
     have hnl1 := negK_len R n (k + 1)
     have hso := someL_succ R k
     generalize R.getD k false = b at *
     have hbs := bC_set (negK R n k) k (!b)
     rw [hns] at hbs
     have hg2 : (bC (negK R n (k + 1)))[k]? = some (.bool (!b)) := by rw [← hbs]; exact List.getElem?_set_self (by rw [bC_len, hnl]; exact hkl)
     generalize hn1 : negK R n (k + 1) = N1 at *
     generalize negK R n k = N0 at *
     generalize hso1 : someL R (k + 1) = S1 at *
     cases hS0 : someL R k with
     | true =>
      rw [hS0, Bool.true_or] at hso
      refine zR (zc @hkI (zc @hg (zc @hg2 (zc @hbs (zc @bC_len (zc @hRl (zc @hnl (zc @hnl1 (zc @Nat.zero_add trivial))))))))) trivial trivial ?_
      refine ⟨k + 1,Weak.headF 8 85 [0, 4, 8, 9, 63, 64] (zc @hn1 (zc @hso1 (zc @hso trivial))) (zV3 @iC_in @bC_inS @stX_in),?_,?_⟩
      ·exact hkl
      ·omega
     | false =>
      rw [hS0, Bool.false_or] at hso
      refine zR (zc @hkI (zc @hg (zc @hg2 (zc @hbs (zc @bC_len (zc @hRl (zc @hnl (zc @hnl1 (zc @Nat.zero_add trivial))))))))) trivial trivial ?_
      refine ⟨k + 1,Weak.headF 8 85 [0, 4, 8, 9, 63, 64] (zc @hn1 (zc @hso1 (zc @hso trivial))) (zV3 @iC_in @bC_inS @stX_in),?_,?_⟩
      ·exact hkl
      ·omega
    ·have hnl : ¬ (k : Int) < (n : Int) := by omega
     have ek : k = n := by omega
     have hln := negK_len R n n
     rw [ek]
     rw [ek] at hnl
     refine zJ (stop 21) (zc @hnl trivial) trivial trivial trivial ?_
     refine AWp.freezeR 8 7 1 n n rfl rfl (bC_trees _) (bRows (negK R n n)) (by rw [bRows_len, hln]) (Nat.le_refl _) (fun r hr => bRows_k hr) (bRows_pre _) ?_
     refine zR trivial trivial trivial ?_
     simp [RetsH, aretH, ares, noTup, Try.results110]
end Go.Proofs.Ytdhfgihnoimoaaa
