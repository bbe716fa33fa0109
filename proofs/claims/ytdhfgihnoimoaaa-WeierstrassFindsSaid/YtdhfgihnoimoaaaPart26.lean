/- A part of the proof. -/
import Derived.Test.YtdhfgihnoimoaaaPart25
import Derived.Test.YtdhfgihnoimoaaaLayerC
import Derived.Test.YtdhfgihnoimoaaaPart05
set_option linter.all false
set_option maxHeartbeats 4000000
set_option maxRecDepth 100000
namespace Go.Proofs.Ytdhfgihnoimoaaa
open Go.Sp
set_option maxHeartbeats 1000000
def nearL (far : List Int) (k : Int) : List Bool := far.map fun x => decide (x < k)
def timesL (es : List E) (far d : List Int) (k : Int) : Nat → Int
 | 0 => 0
 | v + 1 => if far.getD v 0 = k ∧ d.getD v 0 < 0 then max (timesL es far d k v) ((-(d.getD v 0) + jnB es (nearL far k) v - 1).tdiv (jnB es (nearL far k) v)) else timesL es far d k v
theorem timesL_succ (es : List E) (far d : List Int) (k : Int) (v : Nat) : timesL es far d k (v + 1) = if far.getD v 0 = k ∧ d.getD v 0 < 0 then max (timesL es far d k v) ((-(d.getD v 0) + jnB es (nearL far k) v - 1).tdiv (jnB es (nearL far k) v)) else timesL es far d k v := rfl
def lend1 (n : Nat) (es : List E) (far : List Int) (k : Int) (w : List Int × List Int) : List Int × List Int :=
 if 0 < timesL es far w.1 k n then (fireD es (timesL es far w.1 k n) (nearL far k) n w.1, fireS (timesL es far w.1 k n) (nearL far k) n w.2) else w
def lendN (n : Nat) (es : List E) (far : List Int) : Nat → List Int × List Int → List Int × List Int
 | 0, w => w
 | k + 1, w => lendN n es far k (lend1 n es far ((k : Int) + 1) w)
theorem nearL_len (far : List Int) (k : Int) : (nearL far k).length = far.length := by simp [nearL]
theorem nearL_get {far : List Int} {k : Int} {v : Nat} (hv : v < far.length) : (nearL far k).getD v false = decide (far.getD v 0 < k) := by
 unfold nearL
 rw [List.getD_eq_getElem?_getD, List.getElem?_map, List.getD_eq_getElem?_getD, List.getElem?_eq_getElem hv]; rfl
theorem ceil_ge {a j : Int} (hj : 1 ≤ j) (ha : 1 ≤ a) : 1 ≤ (a + j - 1).tdiv j ∧ (a + j - 1).tdiv j ≤ a ∧ a ≤ (a + j - 1).tdiv j * j := by
 rw [Int.tdiv_eq_ediv_of_nonneg (by omega)]
 have h1 := Int.mul_ediv_add_emod (a + j - 1) j
 have h2 := Int.emod_nonneg (a + j - 1) (show j ≠ 0 by omega)
 have h3 := Int.emod_lt_of_pos (a + j - 1) (show 0 < j by omega)
 refine ⟨Int.le_ediv_of_mul_le (by omega) (by omega), ?_, ?_⟩
 ·have h4 : 0 ≤ (a - 1) * (j - 1) := Int.mul_nonneg (by omega) (by omega)
  have h5 : (a - 1) * (j - 1) = a * j - a - j + 1 := by
   rw [Int.sub_mul, Int.mul_sub, Int.one_mul, Int.mul_one]; omega
  have h6 : (a + j - 1) / j ≤ (a * j) / j := Int.ediv_le_ediv (by omega) (by omega)
  rwa [Int.mul_ediv_cancel _ (by omega)] at h6
 ·rw [Int.mul_comm]; omega
section
variable {n : Nat} {es : List E}
theorem jn_in (h : EsOk n es) (R : List Bool) (v : Nat) : jnB es R v = inA n (mulE es) (setA R) v := by
 unfold jnB
 rw [joinL_sum (n := n) _ _ h]; rfl
theorem jn_pos (h : EsOk n es) (R : List Bool) (v : Nat) : 0 ≤ jnB es R v := by
 rw [jn_in h]
 exact sumR_nonneg fun u _ => by have := mulE_pos h v u; split <;> omega
theorem jn_le (h : EsOk n es) (R : List Bool) (v : Nat) : jnB es R v ≤ sizeE es := by
 rw [jn_in h]
 refine Int.le_trans (sumR_le fun u _ => ?_) (mulE_val h v)
 have := mulE_pos h v u; split <;> omega
theorem jn_one (h : EsOk n es) (hm1 : ∀ e, e ∈ es → 1 ≤ e.m) {R : List Bool} {v : Nat} {y : Int × Int} (hy : y ∈ lnkL es v) (hR : R.getD y.1.toNat false = true) : 1 ≤ jnB es R v := by
 obtain ⟨e, he, e1, hne, hab⟩ := lnk_mem hy
 have hr := h.rng e he
 have hyn := lnk_ok h hy
 have h1 := hm1 e he
 rw [jn_in h]
 have h2 : e.m ≤ mulE es v y.1.toNat := mulE_ge h he hne (by rcases hab with ⟨a1, a2⟩ | ⟨a1, a2⟩ <;> omega)
 have h3 := sumR_one_le (f := fun u => if setA R u = true then mulE es v u else 0) (n := n) (fun u _ => by have := mulE_pos h v u; split <;> omega) hyn.1
 have h4 : (if setA R y.1.toNat = true then mulE es v y.1.toNat else 0) = mulE es v y.1.toNat := if_pos hR
 simp only [h4] at h3
 have h5 : inA n (mulE es) (setA R) v = sumR (fun u => if setA R u = true then mulE es v u else 0) n := rfl
 omega
theorem timesL_nonneg (es : List E) (far d : List Int) (k : Int) : ∀ v, 0 ≤ timesL es far d k v
 | 0 => Int.le_refl _
 | v + 1 => by
  have := timesL_nonneg es far d k v
  rw [timesL_succ]; split <;> omega
theorem timesL_le {far d : List Int} {k X : Int} (hX : bndL X d) (h0 : 0 ≤ X) : ∀ m, (∀ v, v < m → far.getD v 0 = k → 1 ≤ jnB es (nearL far k) v) → timesL es far d k m ≤ X
 | 0, _ => h0
 | v + 1, hj => by
  have h1 := timesL_le hX h0 v fun u hu => hj u (by omega)
  rw [timesL_succ]
  split
  ·rename_i hc
   have := ceil_ge (a := -(d.getD v 0)) (hj v (by omega) hc.1) (by omega)
   have := hX v
   omega
  ·exact h1
theorem timesL_ge {far d : List Int} {k : Int} : ∀ m, (∀ v, v < m → far.getD v 0 = k → 1 ≤ jnB es (nearL far k) v) → ∀ v, v < m → far.getD v 0 = k → d.getD v 0 < 0 → 1 ≤ timesL es far d k m ∧ -(d.getD v 0) ≤ timesL es far d k m * jnB es (nearL far k) v
 | 0, _, v, hv, _, _ => by omega
 | m + 1, hj, v, hv, hf, hd => by
  have hjv := hj v hv hf
  have key : ∀ {a b j : Int}, a ≤ b → 1 ≤ j → a * j ≤ b * j := fun h1 h2 => Int.mul_le_mul_of_nonneg_right h1 (by omega)
  by_cases e : v = m
  ·subst e
   rw [timesL_succ, if_pos ⟨hf, hd⟩]
   have h1 := ceil_ge (a := -(d.getD v 0)) hjv (by omega)
   have h2 := key (Int.le_max_right (timesL es far d k v) ((-(d.getD v 0) + jnB es (nearL far k) v - 1).tdiv (jnB es (nearL far k) v))) hjv
   omega
  ·obtain ⟨h1, h2⟩ := timesL_ge m (fun u hu => hj u (by omega)) v (by omega) hf hd
   have h3 : timesL es far d k m ≤ timesL es far d k (m + 1) := by rw [timesL_succ]; split <;> omega
   have h4 := key h3 hjv
   omega
structure LInv (n : Nat) (es : List E) (far d0 : List Int) (k X : Int) (w : List Int × List Int) : Prop where
 dl : w.1.length = n
 sl : w.2.length = n
 led : Led n es d0 w.1 w.2
 db : bndL X w.1
 sb : bndL X w.2
 sp : ∀ v, 0 ≤ w.2.getD v 0
 don : ∀ v, v < n → k < far.getD v 0 → 0 ≤ w.1.getD v 0
theorem far_near (h : EsOk n es) (hm1 : ∀ e, e ∈ es → 1 ≤ e.m) {q : Nat} {far : List Int} (hf : BFq es n q far []) {k : Int} (hk : 1 ≤ k) {v : Nat} (hv : v < n) (hfv : far.getD v 0 = k) : 1 ≤ jnB es (nearL far k) v := by
 obtain ⟨y, hy, h1, h2⟩ := hf.par v hv (by rintro rfl; have := hf.q0; omega) (by omega)
 refine jn_one h hm1 hy ?_
 rw [nearL_get (by rw [hf.len]; exact (lnk_ok h hy).1)]
 exact decide_eq_true (by omega)
theorem LInv.step (h : EsOk n es) (hm1 : ∀ e, e ∈ es → 1 ≤ e.m) {q : Nat} {far d0 : List Int} (hf : BFq es n q far []) {k X Z : Int} {w : List Int × List Int} (hI : LInv n es far d0 k X w) (hk : 1 ≤ k) (hX : 0 ≤ X) (hZ : 1 ≤ Z) (hsz : sizeE es ≤ Z) : LInv n es far d0 (k - 1) (X + Z * X) (lend1 n es far k w) ∧ 0 ≤ timesL es far w.1 k n ∧ timesL es far w.1 k n ≤ X := by
 have hj : ∀ v, v < n → far.getD v 0 = k → 1 ≤ jnB es (nearL far k) v := fun v hv => far_near h hm1 hf hk hv
 have ht0 := timesL_nonneg es far w.1 k n
 have htX := timesL_le hI.db hX n hj
 have hge := timesL_ge (d := w.1) n hj
 refine ⟨?_, ht0, htX⟩
 have hZX : X ≤ Z * X := by
  have := Int.mul_le_mul_of_nonneg_right hZ hX
  omega
 have hs0 : 0 ≤ sizeE es := by
  have := mulE_val h 0
  have := sumR_nonneg (f := mulE es 0) (n := n) fun i _ => mulE_pos h 0 i
  omega
 unfold lend1
 generalize timesL es far w.1 k n = t at *
 split
 ·rename_i htp
  refine ⟨by rw [fireD_len]; exact hI.dl, by rw [fireS_len]; exact hI.sl, hI.led.fire h hI.dl hI.sl t _, ?_, fun i => ?_, fun i => ?_, fun v hv hkv => ?_⟩
  ·refine bndL_mono (fireD_near h hI.dl ht0 hI.db) ?_
   have h1 : sizeE es * t ≤ Z * t := Int.mul_le_mul_of_nonneg_right hsz ht0
   have h2 : Z * t ≤ Z * X := Int.mul_le_mul_of_nonneg_left htX (by omega)
   omega
  ·have h1 := hI.sb i
   simp only
   by_cases hi : i < n
   ·rw [fireS_ind hI.sl hi]
    unfold indA
    split <;> omega
   ·rw [List.getD_eq_getElem?_getD, List.getElem?_eq_none (by rw [fireS_len, hI.sl]; omega)]
    simp only [Option.getD_none]; omega
  ·have h1 := hI.sp i
   simp only
   by_cases hi : i < n
   ·rw [fireS_ind hI.sl hi]
    unfold indA
    split <;> omega
   ·rw [List.getD_eq_getElem?_getD, List.getElem?_eq_none (by rw [fireS_len, hI.sl]; omega)]
    simp only [Option.getD_none]; omega
  ·simp only
   have hin : setA (nearL far k) v = false := by
    unfold setA
    rw [nearL_get (by rw [hf.len]; exact hv)]
    exact decide_eq_false (by omega)
   rw [fireD_lap h hI.dl hv, lap_ind, if_neg (by rw [hin]; simp), ← jn_in h]
   have hjp := Int.mul_nonneg ht0 (jn_pos h (nearL far k) v)
   by_cases hkk : k < far.getD v 0
   ·have := hI.don v hv hkk; omega
   ·by_cases hdv : w.1.getD v 0 < 0
    ·have := (hge v hv (by omega) hdv).2; omega
    ·omega
 ·rename_i htp
  refine ⟨hI.dl, hI.sl, hI.led, bndL_mono hI.db (by omega), bndL_mono hI.sb (by omega), hI.sp, fun v hv hkv => ?_⟩
  by_cases hkk : k < far.getD v 0
  ·exact hI.don v hv hkk
  ·refine Classical.byContradiction fun hdv => ?_
   have := (hge v hv (by omega) (by omega)).1
   omega
def powZ (Z X : Int) : Nat → Int
 | 0 => X
 | k + 1 => powZ Z (X + Z * X) k
theorem powZ_ge {Z : Int} (hZ : 0 ≤ Z) : ∀ (k : Nat) {X : Int}, 0 ≤ X → X ≤ powZ Z X k
 | 0, X, h => Int.le_refl _
 | k + 1, X, h => by
  have h1 := Int.mul_nonneg hZ h
  have := powZ_ge hZ k (X := X + Z * X) (by omega)
  unfold powZ; omega
theorem LInv.all (h : EsOk n es) (hm1 : ∀ e, e ∈ es → 1 ≤ e.m) {q : Nat} {far d0 : List Int} (hf : BFq es n q far []) {Z : Int} (hZ : 1 ≤ Z) (hsz : sizeE es ≤ Z) : ∀ (k : Nat) {X : Int} {w : List Int × List Int}, LInv n es far d0 k X w → 0 ≤ X → LInv n es far d0 0 (powZ Z X k) (lendN n es far k w)
 | 0, X, w, hI, hX => hI
 | k + 1, X, w, hI, hX => by
  have h1 := (hI.step h hm1 hf (by omega) hX hZ hsz).1
  rw [show ((k + 1 : Nat) : Int) - 1 = (k : Nat) by omega] at h1
  have h2 := Int.mul_nonneg (show 0 ≤ Z by omega) hX
  have := LInv.all h hm1 hf hZ hsz k h1 (by omega)
  exact this
end
def maxGo (l : List Int) : Nat → Int
 | 0 => l.getD 0 0
 | k + 1 => max (maxGo l k) (l.getD (k + 1) 0)
theorem maxGo_ge (l : List Int) : ∀ k i, i ≤ k → l.getD i 0 ≤ maxGo l k
 | 0, i, h => by rw [show i = 0 by omega]; exact Int.le_refl _
 | k + 1, i, h => by
  unfold maxGo
  by_cases e : i = k + 1
  ·subst e; omega
  ·have := maxGo_ge l k i (by omega); omega
theorem maxGo_is (l : List Int) : ∀ k, ∃ i, i ≤ k ∧ maxGo l k = l.getD i 0
 | 0 => ⟨0, Nat.le_refl _, rfl⟩
 | k + 1 => by
  obtain ⟨i, h1, h2⟩ := maxGo_is l k
  unfold maxGo
  rcases Int.le_total (maxGo l k) (l.getD (k + 1) 0) with h | h
  ·exact ⟨k + 1, Nat.le_refl _, by omega⟩
  ·exact ⟨i, by omega, by omega⟩
theorem Max_ok (l : List Int) (hne : l ≠ []) (hl : l.length < 2 ^ 40) : ACall Try.prog 107 [tints l] (tint (maxGo l (l.length - 1))) := by
 have hp : 0 < l.length := List.length_pos_iff.2 hne
 have e0 := List.getElem?_eq_getElem hp
 have r0 := iRows_get e0
 have d0 : l.getD 0 0 = l[0] := by rw [List.getD_eq_getElem?_getD, e0]; rfl
 generalize l[0] = x0 at *
 refine ACall.of_body Try.func107 rfl (by kernel_rfl) ?_
 simp only [entry, Try.ntmps107, tints]
 refine zU ?_
 refine zR (zc @iRows_len (zc @r0 (zc @Int.toNat_zero trivial))) trivial trivial ?_
 have hx0 : x0 = maxGo l 0 := d0.symm
 rw [hx0]
 refine AWp.loopS (α:=Nat) 25 (fun i=>[(0,.c (.slice (iRows l) .none)),(3,.c (.int .i64 (maxGo l i))),(4,.c (.int .i64 ((i : Int) + 1)))]) (fun i=>[]) (fun i=>i < l.length) (fun i=>l.length - i) (0) (hk:=Weak.headL 0 25 [0, 3, 4] (zV3 @iC_in @bC_inS @stX_in)) (h0:=?_) (round:=fun i hI=>?_)
 ·exact hp
 ·by_cases hlt : i + 1 < l.length
  ·have hltI : (i : Int) + 1 < l.length := by omega
   have e1 := List.getElem?_eq_getElem hlt
   have r1 := iRows_get e1
   have d1 : l.getD (i + 1) 0 = l[i + 1] := by rw [List.getD_eq_getElem?_getD, e1]; rfl
   have hnx : maxGo l (i + 1) = max (maxGo l i) (l.getD (i + 1) 0) := rfl
   rw [d1] at hnx
   have ht : ((i : Int) + 1).toNat = i + 1 := by omega
   generalize l[i + 1] = y at *
   generalize maxGo l i = m at *
   refine zR (zc @hltI (zc @iRows_len (zc @r1 (zc @ht trivial)))) trivial trivial ?_
   refine ⟨i + 1,Weak.headF 0 25 [0, 3, 4] (zc @hnx trivial) (zV3 @iC_in @bC_inS @stX_in),?_,?_⟩
   ·omega
   ·omega
  ·have ei : maxGo l (l.length - 1) = maxGo l i := by congr 1; omega
   have hnl : ¬ ((i : Int) + 1 < l.length) := by omega
   rw [ei]
   refine zR (zc @hnl (zc @iRows_len trivial)) trivial trivial ?_
   simp [Rets, aret, Blk.cells, ty, Try.results107, ares, toT1, toT, borrow, borrow0, capCell, toTree0, tint]
theorem distances_ok (n q : Nat) (es : List E) (d s : List Int) (h1 : 1 ≤ n) (h12 : n ≤ 12) (hq : q < n) (hd : d.length = n) (hs : s.length = n) (hl : es.length ≤ 40) (hm : ∀ e, e ∈ es → (0 ≤ e.a ∧ e.a < n) ∧ (0 ≤ e.b ∧ e.b < n) ∧ 0 ≤ e.m ∧ e.m ≤ 50) (B : List Int) (pB : Nat) (hB : DEnd es (initO n q, [q], 0) B pB) (hBl : B.length = n) :
  ACallH Try.prog 105 [.box [.int .i64 (n : Int), .slice (eRows es) .none], .ro [.int .i64 (n : Int), .slice (eRows es)], .box (iC d), .box (iC s), .roC [.tree (.int .i64 (n : Int)), .tree (.slice (eRows es)), .tree (.int .i64 (q : Int)), .ref 2 1 0 n n, .ref 3 1 0 n n, .tree (.int .i64 0)]] [.c (.ptr 4 0)] [.box [.int .i64 (n : Int), .slice (eRows es) .none], .ro [.int .i64 (n : Int), .slice (eRows es)], .box (iC d), .box (iC s), .roC [.tree (.int .i64 (n : Int)), .tree (.slice (eRows es)), .tree (.int .i64 (q : Int)), .ref 2 1 0 n n, .ref 3 1 0 n n, .tree (.int .i64 0)]] (.c (.slice (iRows B) .none)) :=
 ((distances_raw n q es d s h1 h12 hq hd hs hl hm B pB hB hBl).trim (by simp) (show 5 < 6 by decide) (fun b hb => by
  rcases List.mem_append.1 hb with hb | hb
  ·exact st0_in n q es d s (m := 6) (by decide) b hb
  ·rw [List.mem_singleton] at hb; subst hb; exact iC_in)).data (Nat.le_refl _) (st0_in n q es d s (m := 5) (by decide)) (iC_trees B) (by rw [iRows_len, hBl]) (Nat.le_refl _) (fun r hr => iRows_k' hr) (iRows_pre B)
def nearK (far : List Int) (k : Int) (n i : Nat) : List Bool := (List.range n).map fun v => decide (v < i) && decide (far.getD v 0 < k)
theorem nearK_len (far : List Int) (k : Int) (n i : Nat) : (nearK far k n i).length = n := by simp [nearK]
theorem nearK_get (far : List Int) (k : Int) (n i v : Nat) : (nearK far k n i)[v]? = if v < n then some (decide (v < i) && decide (far.getD v 0 < k)) else none := by
 unfold nearK
 rw [List.getElem?_map]
 by_cases h : v < n
 ·rw [if_pos h, List.getElem?_range h]; rfl
 ·rw [if_neg h, List.getElem?_eq_none (by simpa using h)]; rfl
theorem nearK_set (far : List Int) (k : Int) {n i : Nat} (hi : i < n) : (nearK far k n i).set i (decide (far.getD i 0 < k)) = nearK far k n (i + 1) := by
 apply List.ext_getElem?
 intro j
 rw [List.getElem?_set, nearK_len, nearK_get, nearK_get]
 by_cases e : i = j
 ·subst e
  rw [if_pos rfl, if_pos hi, if_pos hi, decide_eq_true (show i < i + 1 by omega)]; rfl
 ·rw [if_neg e]
  by_cases h : j < n
  ·rw [if_pos h, if_pos h, decide_eq_decide.2 (show j < i ↔ j < i + 1 by omega)]
  ·rw [if_neg h, if_neg h]
theorem nearK_zero (far : List Int) (k : Int) (n : Nat) : nearK far k n 0 = List.replicate n false := by
 apply List.ext_getElem
 ·simp [nearK]
 ·intro i h1 h2; simp [nearK]
theorem nearK_all (far : List Int) (k : Int) {n : Nat} (hn : far.length = n) : nearK far k n n = nearL far k := by
 apply List.ext_getElem?
 intro j
 rw [nearK_get]
 unfold nearL
 rw [List.getElem?_map]
 by_cases h : j < n
 ·rw [if_pos h, List.getD_eq_getElem?_getD, List.getElem?_eq_getElem (show j < far.length by omega), decide_eq_true h]; rfl
 ·rw [if_neg h, List.getElem?_eq_none (by omega)]; rfl
theorem sizeE_le {n : Nat} : ∀ {es : List E}, EsOk n es → sizeE es ≤ 50 * es.length
 | [], _ => by simp [sizeE]
 | e :: es, h => by
  have := sizeE_le h.tail
  have := h.rng e (by simp)
  unfold sizeE
  rw [List.length_cons]
  split <;> omega
theorem lend_raw (n q : Nat) (es : List E) (d s : List Int) (h1 : 1 ≤ n) (h12 : n ≤ 12) (hq : q < n) (hl : es.length ≤ 40) (hE : EsOk n es) (hm1 : ∀ e, e ∈ es → 1 ≤ e.m) (far : List Int) (pB : Nat) (hB : DEnd es (initO n q, [q], 0) far pB) (hf : BFq es n q far []) (d0 : List Int) (X Z : Int) (hX : 0 ≤ X) (hZ : 1 ≤ Z) (hsz : sizeE es ≤ Z) (hP : powZ Z X (n - 1) ≤ 2097152) (hL : LInv n es far d0 (n - 1 : Nat) X (d, s)) (W : List Int × List Int) (hW : lendN n es far (maxGo far (n - 1)).toNat (d, s) = W) :
  ACallH Try.prog 89 [.box [.int .i64 (n : Int), .slice (eRows es) .none], .ro [.int .i64 (n : Int), .slice (eRows es)], .box (iC d), .box (iC s), .roC [.tree (.int .i64 (n : Int)), .tree (.slice (eRows es)), .tree (.int .i64 (q : Int)), .ref 2 1 0 n n, .ref 3 1 0 n n, .tree (.int .i64 0)]] [.c (.ptr 4 0)] [.box [.int .i64 (n : Int), .slice (eRows es) .none], .ro [.int .i64 (n : Int), .slice (eRows es)], .box (iC W.1), .box (iC W.2), .roC [.tree (.int .i64 (n : Int)), .tree (.slice (eRows es)), .tree (.int .i64 (q : Int)), .ref 2 1 0 n n, .ref 3 1 0 n n, .tree (.int .i64 0)]] (.tup []) := by
 have hm := hE.rng
 have hd := hL.dl
 have hs := hL.sl
 simp only at hd hs
 have hfl := hf.len
 have hfb : ∀ v, v < n → -1 ≤ far.getD v 0 ∧ far.getD v 0 ≤ n - 1 := fun v hv => by have := hf.bnd v hv; omega
 obtain ⟨i0, hi0, hmx⟩ := maxGo_is far (n - 1)
 have hmx0 := maxGo_ge far (n - 1) q (by omega)
 rw [hf.q0] at hmx0
 have hmxb := hfb i0 (by omega)
 have hDi := distances_ok n q es d s h1 h12 hq hd hs hl hm far pB hB hfl
 have hMx := Max_ok far (by intro e; rw [e] at hfl; simp at hfl; omega) (by omega)
 rw [hfl] at hMx
 obtain ⟨k9, hk9⟩ := Int.eq_ofNat_of_zero_le hmx0
 have hKn : k9 ≤ n - 1 := by omega
 rw [hk9] at hMx
 rw [hk9, Int.toNat_natCast] at hW
 have hLK : LInv n es far d0 k9 X (d, s) := ⟨hd, hs, hL.led, hL.db, hL.sb, hL.sp, fun v hv hk => by
  have := maxGo_ge far (n - 1) v (by omega); omega⟩
 clear hL hmx hmx0
 have hPK : powZ Z X k9 ≤ 2097152 := by
  have key : ∀ (a : Nat) {X : Int}, 0 ≤ X → ∀ b, powZ Z X a ≤ powZ Z X (a + b) := fun a => by
   induction a with
   | zero => intro X hX b; rw [Nat.zero_add]; exact powZ_ge (by omega) b hX
   | succ a ih =>
    intro X hX b
    rw [show a + 1 + b = (a + b) + 1 by omega]
    unfold powZ
    exact ih (by have := Int.mul_nonneg (show 0 ≤ Z by omega) hX; omega) b
  have := key k9 hX (n - 1 - k9)
  rw [show k9 + (n - 1 - k9) = n - 1 by omega] at this
  omega
 have hkb : ∀ (v : Nat) u k, (u, k) ∈ lnkL es v → ∃ w : Nat, u = w ∧ w < n := fun v u k hx => by
  obtain ⟨e, he, e1, _, e2⟩ := lnk_mem hx
  have := hm e he
  simp only at e2
  exact ⟨u.toNat, by omega, by omega⟩
 have hJ : ∀ (d s : List Int) (R : List Bool) (v : Nat), d.length = n → s.length = n → R.length = n → v < n → ACallH Try.prog 108 [.box [.int .i64 (n : Int), .slice (eRows es) .none], .ro [.int .i64 (n : Int), .slice (eRows es)], .box (iC d), .box (iC s), .roC [.tree (.int .i64 (n : Int)), .tree (.slice (eRows es)), .tree (.int .i64 (q : Int)), .ref 2 1 0 n n, .ref 3 1 0 n n, .tree (.int .i64 0)], .box (bC R), .box [.ref 5 1 0 n n]] [.c (.ptr 4 0), .c (.int .i64 (v : Int)), .c (.fn 109 [.ptr 6 0])] [.box [.int .i64 (n : Int), .slice (eRows es) .none], .ro [.int .i64 (n : Int), .slice (eRows es)], .box (iC d), .box (iC s), .roC [.tree (.int .i64 (n : Int)), .tree (.slice (eRows es)), .tree (.int .i64 (q : Int)), .ref 2 1 0 n n, .ref 3 1 0 n n, .tree (.int .i64 0)], .box (bC R), .box [.ref 5 1 0 n n]] (.c (.int .i64 (jnB es R v))) := fun d s R v hd hs hR hv =>
  joinsB_ok n q es d s R (by intro e; rw [e] at hd; simp at hd; omega) (by intro e; rw [e] at hs; simp at hs; omega) (by intro e; rw [e] at hR; simp at hR; omega) (by omega) (fun e he => by have := hm e he; omega) v (by omega) _ _ fun X u k hx => by
   obtain ⟨w, rfl, hw⟩ := hkb v u k hx
   exact clL_ok n R hR rfl rfl w hw
 clear hDi
 have hDi := distances_ok n q es d s h1 h12 hq hd hs hl hm far pB hB hfl
 refine ACallH.of_body Try.func89 rfl (by kernel_rfl) ?_
 simp only [entry, Try.ntmps89, List.length_cons, List.length_nil, Nat.reduceAdd, Nat.reduceSub, List.replicate_succ, List.replicate_zero, List.cons_append, List.nil_append]
 repeat' (first|((with_reducible refine AWp.seq (AWp.of_reg (id:=1) (AReg.pre 1 (fun K hK=>?_))));simp only [List.take_succ_cons,List.take_zero])|((with_reducible refine AWp.of_reg (id:=1) (AReg.pre 1 (fun K hK=>?_)));simp only [List.take_succ_cons,List.take_zero])|((first|(refine zT ?_;intro K' hK')|(refine zG ?_ ?_<;>(try refine zH ?_)<;>intro hguard<;>(try exact zX)<;>try intro K' hK'))<;>((try simp +contextual only [go_sem]);(repeat' first|(with_reducible refine hK' _ _ ?_;clear hK' K')|((with_reducible first|refine ⟨_,_,hDi,?_⟩|refine ⟨_,hDi,?_⟩);try simp +contextual only [go_sem])|exact zY|with_reducible refine And.intro ?_ ?_|(with_reducible intro hpath;try exact zP)|(refine hK' _ _ ?_;clear hK' K')|fail);try refine zS ?_))|(refine zE ?_;refine hK _ _ ?_;clear hK K)|(refine zN ?_;try refine zS ?_)|refine zA ?_|(refine zB ?_;intro K hK)|(refine zC ?_ ?_<;>(try refine zH ?_)<;>intro hcond<;>try exact zX)|fail)
 simp only [List.drop_succ_cons, List.drop_zero]
 refine AReg.step (rv := .c (.bfn 106 [.ptr 4 0])) (H' := [.box [.int .i64 (n : Int), .slice (eRows es) .none], .ro [.int .i64 (n : Int), .slice (eRows es)], .box (iC d), .box (iC s), .roC [.tree (.int .i64 (n : Int)), .tree (.slice (eRows es)), .tree (.int .i64 (q : Int)), .ref 2 1 0 n n, .ref 3 1 0 n n, .tree (.int .i64 0)]]) rfl rfl (step_makeBfn _ _ rfl _ rfl) ?_
 refine AReg.rest (fun K hK => ?_)
 repeat' ((fail_if_success (with_reducible refine AWp.atSeq 99 ?_));(fail_if_success (with_reducible refine AWp.atLast 99 ?_));first|((first|(refine zT ?_;intro K' hK')|(refine zG ?_ ?_<;>(try refine zH ?_)<;>intro hguard<;>(try exact zX)<;>try intro K' hK'))<;>((try simp +contextual only [go_sem]);(repeat' first|(with_reducible refine hK' _ _ ?_;clear hK' K')|(with_reducible refine zK hMx ?_;try simp +contextual only [go_sem])|exact zY|with_reducible refine And.intro ?_ ?_|(with_reducible intro hpath;try exact zP)|(refine hK' _ _ ?_;clear hK' K')|fail);try refine zS ?_))|(refine zE ?_;refine hK _ _ ?_;clear hK K)|(refine zN ?_;try refine zS ?_)|refine zA ?_|(refine zB ?_;intro K hK)|(refine zC ?_ ?_<;>(try refine zH ?_)<;>intro hcond<;>try exact zX)|fail)
 refine AWp.loopS (α:=(Nat × (List Int × List Int))) 95 (fun w=>[(0,.c (.ptr 4 0)),(2,.c (.slice (iRows far) .none)),(3,.c (.bfn 106 [.ptr 4 0])),(4,.c (.int .i64 (w.1 : Int)))]) (fun w=>[.box [.int .i64 (n : Int), .slice (eRows es) .none], .ro [.int .i64 (n : Int), .slice (eRows es)], .box (iC w.2.1), .box (iC w.2.2), .roC [.tree (.int .i64 (n : Int)), .tree (.slice (eRows es)), .tree (.int .i64 (q : Int)), .ref 2 1 0 n n, .ref 3 1 0 n n, .tree (.int .i64 0)]]) (fun w=>w.1 ≤ n - 1 ∧ lendN n es far w.1 w.2 = W ∧ ∃ Y : Int, 0 ≤ Y ∧ powZ Z Y w.1 ≤ 2097152 ∧ LInv n es far d0 w.1 Y w.2) (fun w=>w.1) ((k9, (d, s))) (hk:=Weak.headL 5 95 [0, 2, 3, 4] (zV3 @iC_in @bC_inS @stX_in)) (h0:=?_) (round:=fun w hI=>?_)
 ·exact ⟨hKn, hW, X, hX, hPK, hLK⟩
 ·clear hW hPK hLK hX hP hDi hd hs
  obtain ⟨k, d, s⟩ := w
  obtain ⟨hkn, hW, Y, hY, hPk, hLk⟩ := hI
  simp only at hkn hW hPk hLk ⊢
  have hd := hLk.dl
  have hs := hLk.sl
  simp only at hd hs
  cases k with
  | zero =>
   have eW : (d, s) = W := hW
   subst eW
   refine zR trivial trivial trivial ?_
   simp [RetsH, aretH, ares, noTup, Try.results89]
  | succ k =>
   have hkp : ((k + 1 : Nat) : Int) > 0 := by omega
   have hk0 : (0 : Int) < ((k + 1 : Nat) : Int) := by omega
   obtain ⟨hst, hT0, hTY⟩ := hLk.step hE hm1 hf (by omega) hY hZ hsz
   simp only at hst hT0 hTY
   have hPk' : powZ Z (Y + Z * Y) k ≤ 2097152 := hPk
   have hY1 : 0 ≤ Y + Z * Y := by have := Int.mul_nonneg (show 0 ≤ Z by omega) hY; omega
   have hYb := powZ_ge (show 0 ≤ Z by omega) k hY1
   have hjp : ∀ v, v < n → far.getD v 0 = ((k + 1 : Nat) : Int) → 1 ≤ jnB es (nearL far ((k + 1 : Nat) : Int)) v := fun v hv => far_near hE hm1 hf (by omega) hv
   have hZY : 0 ≤ Z * Y := Int.mul_nonneg (by omega) hY
   have hN : nearL far ((k : Int) + 1) = nearL far ((k + 1 : Nat) : Int) := rfl
   have hnll : (nearL far ((k + 1 : Nat) : Int)).length = n := by rw [nearL_len, hfl]
   refine zR (zc @hk0 (zc @made_bools (zc @Nat.zero_add trivial))) trivial trivial ?_
   rw [← nearK_zero far ((k + 1 : Nat) : Int) n]
   refine AWp.loopS (α:=Nat) 95 (fun i=>[(0,.c (.ptr 4 0)),(2,.c (.slice (iRows far) .none)),(3,.c (.bfn 106 [.ptr 4 0])),(4,.c (.int .i64 ((k + 1 : Nat) : Int))),(5,.c (.ptr 6 0)),(35,.c (.int .i64 (n : Int))),(36,.c (.int .i64 (i : Int)))]) (fun i=>[.box [.int .i64 (n : Int), .slice (eRows es) .none], .ro [.int .i64 (n : Int), .slice (eRows es)], .box (iC d), .box (iC s), .roC [.tree (.int .i64 (n : Int)), .tree (.slice (eRows es)), .tree (.int .i64 (q : Int)), .ref 2 1 0 n n, .ref 3 1 0 n n, .tree (.int .i64 0)], .box (bC (nearK far ((k + 1 : Nat) : Int) n i)), .box [.ref 5 1 0 n n]]) (fun i=>i ≤ n) (fun i=>n - i) (0) (hk:=Weak.headL 7 95 [0, 2, 3, 4, 5, 35, 36] (zV3 @iC_in @bC_inS @stX_in)) (h0:=?_) (round:=fun i hI=>?_)
   ·exact Nat.zero_le _
   ·have hi : i ≤ n := hI
    clear hI
    by_cases hil : i < n
    ·have hiI : (i : Int) < (n : Int) := by omega
     have hg := iRows_get (getD_get (d := far) (i := i) (by omega))
     have hns := nearK_set far ((k + 1 : Nat) : Int) hil
     have hnl := nearK_len far ((k + 1 : Nat) : Int) n i
     have hbs := bC_set (nearK far ((k + 1 : Nat) : Int) n i) i (decide (far.getD i 0 < ((k + 1 : Nat) : Int)))
     rw [hns] at hbs
     generalize hn1 : nearK far ((k + 1 : Nat) : Int) n (i + 1) = N1 at *
     generalize nearK far ((k + 1 : Nat) : Int) n i = N0 at *
     generalize far.getD i 0 = fi at *
     generalize ((k + 1 : Nat) : Int) = kk at *
     refine zR (zc @hiI (zc @hg (zc @hbs (zc @bC_len (zc @hnl (zc @iRows_len (zc @hfl (zc @Nat.zero_add trivial)))))))) trivial trivial ?_
     refine ⟨i + 1,Weak.headF 7 95 [0, 2, 3, 4, 5, 35, 36] (zc @hn1 trivial) (zV3 @iC_in @bC_inS @stX_in),?_,?_⟩
     ·exact hil
     ·omega
    ·have hnl : ¬ (i : Int) < (n : Int) := by omega
     have ei : i = n := by omega
     rw [ei]
     rw [ei] at hnl
     rw [nearK_all far _ hfl]
     refine zR (zc @hnl (zc @iRows_len (zc @hfl trivial))) trivial trivial ?_
     refine AWp.loopS (α:=Nat) 95 (fun v=>[(0,.c (.ptr 4 0)),(2,.c (.slice (iRows far) .none)),(3,.c (.bfn 106 [.ptr 4 0])),(4,.c (.int .i64 ((k + 1 : Nat) : Int))),(5,.c (.ptr 6 0)),(7,.c (.int .i64 (timesL es far d ((k + 1 : Nat) : Int) v))),(49,.c (.slice (iRows far) .none)),(50,.c (.int .i64 (n : Int))),(51,.c (.int .i64 (v : Int)))]) (fun v=>[.box [.int .i64 (n : Int), .slice (eRows es) .none], .ro [.int .i64 (n : Int), .slice (eRows es)], .box (iC d), .box (iC s), .roC [.tree (.int .i64 (n : Int)), .tree (.slice (eRows es)), .tree (.int .i64 (q : Int)), .ref 2 1 0 n n, .ref 3 1 0 n n, .tree (.int .i64 0)], .box (bC (nearL far ((k + 1 : Nat) : Int))), .box [.ref 5 1 0 n n]]) (fun v=>v ≤ n) (fun v=>n - v) (0) (hk:=Weak.headL 7 95 [0, 2, 3, 4, 5, 7, 49, 50, 51] (zV3 @iC_in @bC_inS @stX_in)) (h0:=?_) (round:=fun v hI=>?_)
     ·exact Nat.zero_le _
     ·have hv : v ≤ n := hI
      clear hI
      by_cases hvl : v < n
      ·have hvI : (v : Int) < (n : Int) := by omega
       have hg := iRows_get (getD_get (d := far) (i := v) (by omega))
       have hds := iC_get (getD_get (d := d) (i := v) (by omega))
       have hJv := hJ d s (nearL far ((k + 1 : Nat) : Int)) v hd hs hnll hvl
       have hT := timesL_succ es far d ((k + 1 : Nat) : Int) v
       have hTv := timesL_le hLk.db hY v fun u hu => hjp u (by omega)
       have hTv0 := timesL_nonneg es far d ((k + 1 : Nat) : Int) v
       have hj1 := hjp v hvl
       have hsz2 := sizeE_le hE
       have hj2 := jn_le hE (nearL far ((k + 1 : Nat) : Int)) v
       have hdb := hLk.db v
       simp only at hdb hTv
       clear hst hTY hT0
       generalize ((k + 1 : Nat) : Int) = kk at *
       generalize jnB es (nearL far kk) v = jv at *
       generalize hnx : timesL es far d kk (v + 1) = T1 at *
       generalize timesL es far d kk v = T0 at *
       generalize far.getD v 0 = fv at *
       generalize d.getD v 0 = dv at *
       by_cases hfk : fv = kk
       ·by_cases hdn : dv < 0
        ·have hj3 := hj1 hfk
         have hc := ceil_ge (a := -dv) hj3 (by omega)
         have hjz : jv ≠ 0 := by omega
         have hjz' : ¬ jv = 0 := by omega
         rw [if_pos ⟨hfk, hdn⟩] at hT
         refine zJ trivial (zc @hvI (zc @hg (zc @hds (zc @hfk (zc @hdn (zc @hjz (zc @hjz' (zc @iC_len (zc @hd (zc @iRows_len (zc @hfl (zc @Nat.zero_add trivial)))))))))))) trivial (zc hJv trivial) trivial ?_
         refine ⟨v + 1,Weak.headF 7 95 [0, 2, 3, 4, 5, 7, 49, 50, 51] (zc @hnx (zc @hT trivial)) (zV3 @iC_in @bC_inS @stX_in),?_,?_⟩
         ·exact hvl
         ·omega
        ·rw [if_neg (fun h => hdn h.2)] at hT
         refine zR (zc @hvI (zc @hg (zc @hds (zc @hfk (zc @hdn (zc @iC_len (zc @hd (zc @iRows_len (zc @hfl (zc @Nat.zero_add trivial)))))))))) trivial trivial ?_
         refine ⟨v + 1,Weak.headF 7 95 [0, 2, 3, 4, 5, 7, 49, 50, 51] (zc @hnx (zc @hT trivial)) (zV3 @iC_in @bC_inS @stX_in),?_,?_⟩
         ·exact hvl
         ·omega
       ·rw [if_neg (fun h => hfk h.1)] at hT
        refine zR (zc @hvI (zc @hg (zc @hds (zc @hfk (zc @iC_len (zc @hd (zc @iRows_len (zc @hfl (zc @Nat.zero_add trivial))))))))) trivial trivial ?_
        refine ⟨v + 1,Weak.headF 7 95 [0, 2, 3, 4, 5, 7, 49, 50, 51] (zc @hnx (zc @hT trivial)) (zV3 @iC_in @bC_inS @stX_in),?_,?_⟩
        ·exact hvl
        ·omega
      ·have hnl2 : ¬ (v : Int) < (n : Int) := by omega
       have ev : v = n := by omega
       rw [ev]
       rw [ev] at hnl2
       have hun : lendN n es far (k + 1) (d, s) = lendN n es far k (lend1 n es far ((k : Int) + 1) (d, s)) := rfl
       rw [hun] at hW
       have hl1 : lend1 n es far ((k : Int) + 1) (d, s) = if 0 < timesL es far d ((k + 1 : Nat) : Int) n then (fireD es (timesL es far d ((k + 1 : Nat) : Int) n) (nearL far ((k + 1 : Nat) : Int)) n d, fireS (timesL es far d ((k + 1 : Nat) : Int) n) (nearL far ((k + 1 : Nat) : Int)) n s) else (d, s) := rfl
       have hl2 : lend1 n es far ((k + 1 : Nat) : Int) (d, s) = lend1 n es far ((k : Int) + 1) (d, s) := rfl
       rw [hl2] at hst
       rw [show ((k + 1 : Nat) : Int) - 1 = (k : Int) by omega] at hst
       have hk1 : ((k + 1 : Nat) : Int) - 1 = (k : Int) := by omega
       have hfire := fun hF1 hF2 => fireB_ok n q es d s (nearL far ((k + 1 : Nat) : Int)) h1 h12 hd hs hnll hl hm (timesL es far d ((k + 1 : Nat) : Int) n) (by omega) (bndL_mono hLk.db (by omega)) (bndL_mono hLk.sb (by omega)) hF1 hF2
       by_cases htp : 0 < timesL es far d ((k + 1 : Nat) : Int) n
       ·rw [if_pos htp] at hl1
        rw [hl1] at hst hW
        replace hfire := hfire (bndL_mono hst.db (by omega)) (bndL_mono hst.sb (by omega))
        generalize timesL es far d ((k + 1 : Nat) : Int) n = T at *
        repeat' (first|((with_reducible refine AWp.seq (AWp.of_reg (id:=20) (AReg.pre 3 (fun K hK=>?_))));simp only [List.take_succ_cons,List.take_zero])|((with_reducible refine AWp.of_reg (id:=20) (AReg.pre 3 (fun K hK=>?_)));simp only [List.take_succ_cons,List.take_zero])|((first|(refine zT ?_;intro K' hK')|(refine zG ?_ ?_<;>(try refine zH ?_)<;>intro hguard<;>(try exact zX)<;>try intro K' hK'))<;>((try simp +contextual only [go_sem, hnl2, htp]);(repeat' first|(with_reducible refine hK' _ _ ?_;clear hK' K')|exact zY|with_reducible refine And.intro ?_ ?_|(with_reducible intro hpath;try exact zP)|(refine hK' _ _ ?_;clear hK' K')|fail);try refine zS ?_))|(refine zE ?_;refine hK _ _ ?_;clear hK K)|(refine zN ?_;try refine zS ?_)|refine zA ?_|(refine zB ?_;intro K hK)|(refine zC ?_ ?_<;>(try refine zH ?_)<;>intro hcond<;>try exact zX)|fail)
        simp only [List.drop_succ_cons, List.drop_zero]
        refine AReg.step (rv := .tup []) (H' := [.box [.int .i64 (n : Int), .slice (eRows es) .none], .ro [.int .i64 (n : Int), .slice (eRows es)], .box (iC (fireD es T (nearL far ((k + 1 : Nat) : Int)) n d)), .box (iC (fireS T (nearL far ((k + 1 : Nat) : Int)) n s)), .roC [.tree (.int .i64 (n : Int)), .tree (.slice (eRows es)), .tree (.int .i64 (q : Int)), .ref 2 1 0 n n, .ref 3 1 0 n n, .tree (.int .i64 0)], .box (bC (nearL far ((k + 1 : Nat) : Int))), .box [.ref 5 1 0 n n]]) rfl rfl (step_callB (Operand.tmp 91) #[Operand.tmp 92, Operand.tmp 93] _ rfl 106 [.ptr 4 0] rfl _ hfire) ?_
        refine AReg.rest (fun K hK => ?_)
        repeat' (first|((first|(refine zT ?_;intro K' hK')|(refine zG ?_ ?_<;>(try refine zH ?_)<;>intro hguard<;>(try exact zX)<;>try intro K' hK'))<;>((try simp +contextual only [go_sem, hk1]);(repeat' first|(with_reducible refine hK' _ _ ?_;clear hK' K')|exact zY|with_reducible refine And.intro ?_ ?_|(with_reducible intro hpath;try exact zP)|(refine hK' _ _ ?_;clear hK' K')|fail);try refine zS ?_))|(refine zE ?_;refine hK _ _ ?_;clear hK K)|(refine zN ?_;try refine zS ?_)|refine zA ?_|(refine zB ?_;intro K hK)|(refine zC ?_ ?_<;>(try refine zH ?_)<;>intro hcond<;>try exact zX)|fail)
        refine ⟨(k, (fireD es T (nearL far ((k + 1 : Nat) : Int)) n d, fireS T (nearL far ((k + 1 : Nat) : Int)) n s)),Weak.headN 5 95 [0, 2, 3, 4] (zV3 @iC_in @bC_inS @stX_in),?_,?_⟩
        ·exact ⟨by omega, hW, _, hY1, hPk', hst⟩
        ·show k < k + 1
         omega
       ·rw [if_neg htp] at hl1
        rw [hl1] at hst hW
        clear hfire
        generalize timesL es far d ((k + 1 : Nat) : Int) n = T at *
        repeat' (first|((first|(refine zT ?_;intro K' hK')|(refine zG ?_ ?_<;>(try refine zH ?_)<;>intro hguard<;>(try exact zX)<;>try intro K' hK'))<;>((try simp +contextual only [go_sem, hnl2, htp, hk1]);(repeat' first|(with_reducible refine hK' _ _ ?_;clear hK' K')|exact zY|with_reducible refine And.intro ?_ ?_|(with_reducible intro hpath;try exact zP)|(refine hK' _ _ ?_;clear hK' K')|fail);try refine zS ?_))|(refine zE ?_;refine hK _ _ ?_;clear hK K)|(refine zN ?_;try refine zS ?_)|refine zA ?_|(refine zB ?_;intro K hK)|(refine zC ?_ ?_<;>(try refine zH ?_)<;>intro hcond<;>try exact zX)|fail)
        refine ⟨(k, (d, s)),Weak.headN 5 95 [0, 2, 3, 4] (zV3 @iC_in @bC_inS @stX_in),?_,?_⟩
        ·exact ⟨by omega, hW, _, hY1, hPk', hst⟩
        ·show k < k + 1
         omega
end Go.Proofs.Ytdhfgihnoimoaaa
