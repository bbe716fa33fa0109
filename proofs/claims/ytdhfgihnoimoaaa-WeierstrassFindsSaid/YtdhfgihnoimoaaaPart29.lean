/- A part of the proof. -/
import Derived.Test.YtdhfgihnoimoaaaLayerC
import Derived.Test.YtdhfgihnoimoaaaPart28
import Derived.Test.YtdhfgihnoimoaaaLayerE
set_option linter.all false
set_option maxHeartbeats 4000000
set_option maxRecDepth 100000
namespace Go.Proofs.Ytdhfgihnoimoaaa
open Go.Sp
section
variable {n : Nat} {es : List E}
theorem joinL_zero {p : Int → Bool} : ∀ {l : List (Int × Int)}, (∀ x, x ∈ l → p x.1 = false) → joinL p l = 0
 | [], _ => rfl
 | x :: l, h => by
  rw [joinL_cons, joinL_zero fun y hy => h y (by simp [hy]), h x (by simp)]; rfl
theorem link_of_mul (h : EsOk n es) {u v : Nat} (hv : v < n) (hm : 1 ≤ mulE es u v) : ∃ x, x ∈ lnkL es u ∧ x.1.toNat = v := by
 refine Classical.byContradiction fun hx => ?_
 have h1 := join_one h u hv
 rw [joinL_zero fun x hxl => decide_eq_false fun e => hx ⟨x, hxl, by rw [e]; rfl⟩] at h1
 omega
theorem far_pos (h : EsOk n es) (hM : Mult n (mulE es)) {q : Nat} (hq : q < n) {far : List Int} (hf : BFq es n q far []) {v : Nat} (hv : v < n) (hne : v ≠ q) : 0 < far.getD v 0 := by
 have hall : ∀ w, w < n → 0 ≤ far.getD w 0 := fun w hw => by
  refine Classical.byContradiction fun hx => ?_
  obtain ⟨a, b, ha, hb, s1, s2, s3⟩ := hM.con (fun u => decide (0 ≤ far.getD u 0)) ⟨q, hq, decide_eq_true (by rw [hf.q0]; exact Int.le_refl _)⟩ ⟨w, hw, decide_eq_false hx⟩
  obtain ⟨x, hx1, hx2⟩ := link_of_mul h hb s3
  have := ((hf.proc a ha (of_decide_eq_true s1) (by simp)).2 x hx1).1
  rw [hx2] at this
  exact of_decide_eq_false s2 this
 have h0 := hall v hv
 obtain ⟨y, _, h1, h2⟩ := hf.par v hv hne h0
 omega
theorem SInv.mono {q : Nat} {d0 : List Int} {X Y Y' sq : Int} {w : List Int × List Int} (h : SInv n es q d0 X Y sq w) (hY : Y ≤ Y') : SInv n es q d0 X Y' sq w := ⟨h.dl, h.sl, h.led, h.don, h.dq, fun v hv => by have := h.low v hv; omega, h.sq⟩
end
theorem Reduce_ok (n q : Nat) (es : List E) (d : List Int) (h1 : 1 ≤ n) (h12 : n ≤ 12) (hq : q < n) (hd : d.length = n) (hl : es.length ≤ 40) (hE : EsOk n es) (hm1 : ∀ e, e ∈ es → 1 ≤ e.m) (hM : Mult n (mulE es)) (hc : checkG ⟨(n : Int), es⟩ = 0) (hcc : connB ⟨(n : Int), es⟩ = true) (B Z P : Int) (hB0 : 0 ≤ B) (hB : bndL B d) (hZ : 1 ≤ Z) (hsz : sizeE es ≤ Z) (hP : sumR (fun v => max 0 (d.getD v 0)) n ≤ P) (hX1 : powZ Z B (n - 1) + P ≤ 1048576) (hX2 : powZ Z B (n - 1) + n * P ≤ 1048576) :
  ∃ R S : List Int, R.length = n ∧ S.length = n ∧ reducedAt n (mulE es) q (fun v => R.getD v 0) ∧ (∀ w, w < n → R.getD w 0 = d.getD w 0 - lap n (mulE es) (fun u => S.getD u 0) w) ∧ S.getD q 0 = 0 ∧ bndL 1048576 R ∧ bndL 1048576 S ∧ ACall Try.prog 71 [tG ⟨(n : Int), es⟩, tint q, tints d] (.tup [tints R, tints S, tint 0]) ∧ ACallH Try.prog 71 [] [ofT (tG ⟨(n : Int), es⟩), .c (.int .i64 (q : Int)), .c (.slice (iRows d) .none)] [.box [.int .i64 (n : Int), .slice (eRows es) .none], .ro [.int .i64 (n : Int), .slice (eRows es)], .box (iC R), .box (iC S)] (.tup [.c (.ref 2 1 0 n n), .c (.ref 3 1 0 n n), .c (.int .i64 0)]) := by
 have hm := hE.rng
 obtain ⟨far, pB, hDE, hf⟩ := dEnd (es := es) (n := n) (q := q) (fun v x hx => by have := lnk_ok hE hx; omega) _ (initO n q, [q], 0) (Nat.le_refl _) (initO_bf hq)
 have hz : ∀ u, (List.replicate n (0 : Int)).getD u 0 = 0 := fun u => by
  rw [List.getD_eq_getElem?_getD, List.getElem?_replicate]; split <;> rfl
 have hzl : (List.replicate n (0 : Int)).length = n := by simp
 have hP0 : 0 ≤ P := Int.le_trans (sumR_nonneg fun v _ => by omega) hP
 have hnP : 0 ≤ (n : Int) * P := Int.mul_nonneg (by omega) hP0
 have hXB := powZ_ge (show 0 ≤ Z by omega) (n - 1) hB0
 have hL : ∀ k : Nat, (∀ v, v < n → far.getD v 0 ≤ k) → LInv n es far d k B (d, List.replicate n 0) := fun k hk => ⟨hd, hzl, fun w hw => by
   have : lap n (mulE es) (fun u => (List.replicate n (0 : Int)).getD u 0) w = 0 := by
    unfold lap; exact sumR_zero fun u _ => by simp only [hz]; simp
   simp only
   rw [this]; omega, hB, fun i => by simp only; rw [hz]; omega, fun v => by simp only; rw [hz]; exact Int.le_refl _, fun v hv hkv => by have := hk v hv; omega⟩
 have hL1 := hL (n - 1) fun v hv => by have := hf.bnd v hv; omega
 obtain ⟨K9, hK9⟩ : ∃ k : Nat, maxGo far (n - 1) = (k : Int) := by
  have h := maxGo_ge far (n - 1) q (by omega)
  rw [hf.q0] at h
  exact Int.eq_ofNat_of_zero_le h
 obtain ⟨i0, hi0, hmx⟩ := maxGo_is far (n - 1)
 have hKn : K9 ≤ n - 1 := by have := hf.bnd i0 (by omega); omega
 have hL2 := (hL K9 fun v hv => by have := maxGo_ge far (n - 1) v (by omega); omega).all hE hm1 hf hZ hsz K9 hB0
 have hPK : powZ Z B K9 ≤ powZ Z B (n - 1) := by
  have key : ∀ (a : Nat) {X : Int}, 0 ≤ X → ∀ b, powZ Z X a ≤ powZ Z X (a + b) := fun a => by
   induction a with
   | zero => intro X hX b; rw [Nat.zero_add]; exact powZ_ge (by omega) b hX
   | succ a ih =>
    intro X hX b
    rw [show a + 1 + b = (a + b) + 1 by omega]
    unfold powZ
    exact ih (by have := Int.mul_nonneg (show 0 ≤ Z by omega) hX; omega) b
  have := key K9 hB0 (n - 1 - K9)
  rw [show K9 + (n - 1 - K9) = n - 1 by omega] at this
  exact this
 have hLd := fun W hW => lend_raw n q es d (List.replicate n 0) h1 h12 hq hl hE hm1 far pB hDE hf d B Z hB0 hZ hsz (by omega) hL1 W hW
 rw [hK9, Int.toNat_natCast] at hLd
 generalize hX : powZ Z B (n - 1) = X at *
 generalize hXK : powZ Z B K9 = XK at *
 generalize hW1 : lendN n es far K9 (d, List.replicate n 0) = W1 at *
 have hLd1 := hLd W1 rfl
 clear hLd
 obtain ⟨d1, s1⟩ := W1
 have hd1 := hL2.dl
 have hs1 := hL2.sl
 have hsb1 := hL2.sb q
 have hsp1 := hL2.sp
 simp only at hd1 hs1 hLd1 hsb1 hsp1
 have hS0 : SInv n es q d X 0 (s1.getD q 0) (d1, s1) := ⟨hd1, hs1, hL2.led, fun v hv hne => hL2.don v hv (far_pos hE hM hq hf hv hne), by have := hL2.db q; simp only at this ⊢; omega, fun v hv => by have := hsp1 v; simp only; omega, rfl⟩
 have hP' : sumR (fun v => if v = q then 0 else max 0 (d.getD v 0)) n ≤ P := Int.le_trans (sumR_le fun v _ => by (try dsimp only); split <;> omega) hP
 have hsq := hsp1 q
 generalize s1.getD q 0 = sq at *
 obtain ⟨W, Zb, hW, hSW, hBu, hBa⟩ := sEnd hE hM hq hP' (n * (sq + n * P) - sumR (fun v => s1.getD v 0) n).toNat (d1, s1) hS0 (by show n * (sq + n * P) - sumR (fun v => s1.getD v 0) n ≤ _; omega)
 have hSt := (settle_raw n q es d1 s1 h1 h12 hq hl hE hM d X X sq P 1048576 (by omega) hP (by omega) (by omega) (by omega) (by omega) (hS0.mono (by omega)) W Zb hW).trim (Nat.le_refl _) (show valIn _ (.tup []) from fun x hx => by cases hx) (st0_in n q es _ _ (m := 5) (by decide))
 obtain ⟨hb1, hb2⟩ := (hSW.mono (show 0 ≤ X by omega)).bnd hE hM hq hP (by omega) (by omega) hX1 hX2
 have htop := hSW.top hE hM hq hP'
 obtain ⟨R, s2⟩ := W
 have hRl := hSW.dl
 have hsl := hSW.sl
 have hqq := hSW.sq
 have hlow := hSW.low
 have hled := hSW.led
 simp only at hRl hsl hqq hlow htop hb1 hb2 hSt hled
 have hget : ∀ v, v < n → (normS s2 sq n).getD v 0 = s2.getD v 0 - sq := fun v hv => by
  rw [normS_get s2 sq v n (by omega), if_pos hv]
 have hSb : bndL 1048576 (normS s2 sq n) := fun v => by
  by_cases hv : v < n
  ·rw [hget v hv]
   have := htop v hv
   have := hlow v hv
   omega
  ·rw [List.getD_eq_getElem?_getD, List.getElem?_eq_none (by rw [normS_len]; omega)]
   simp
 have hSl : (normS s2 sq n).length = n := by rw [normS_len]; exact hsl
 refine ⟨R, normS s2 sq n, hRl, hSl, burnt_red hE hq hSW.don hBu hBa, fun w hw => ?_, by rw [hget q hq]; omega, hb1, hSb, ?_⟩
 ·rw [hled w hw]
  congr 1
  unfold lap
  exact sumR_congr fun u hu => by
   show mulE es w u * (s2.getD w 0 - s2.getD u 0) = mulE es w u * ((normS s2 sq n).getD w 0 - (normS s2 sq n).getD u 0)
   rw [hget u hu, hget w hw]; congr 1; omega
 ·have hRs := result_ok n q es R s2 h1 h12 hq hRl hsl hb1 (bndL_mono hb2 (by decide)) (by rw [hqq]; exact hSb)
  rw [hqq] at hRs
  have hG := dgiven_ok n q es d hq hd h1 h12 (by omega) hc hcc (bndL_mono hB (by omega))
  have hBg := begin_ok n q es d h1 h12 hd
  generalize normS s2 sq n = S at *
  have hbi : ∀ (H : List Blk) (k : IntKind) (x : Int), borrow H (.int k x) = some (.int k x) := fun _ _ _ => rfl
  have hr2 : borrow [.box [.int .i64 (n : Int), .slice (eRows es) .none], .ro [.int .i64 (n : Int), .slice (eRows es)], .box (iC R), .box (iC S), .roC [.tree (.int .i64 (n : Int)), .tree (.slice (eRows es)), .tree (.int .i64 (q : Int)), .ref 2 1 0 n n, .ref 3 1 0 n n, .tree (.int .i64 0)]] (.ref 2 1 0 n n) = some (.slice (iRows R)) := iC_ref hRl rfl
  have hr3 : borrow [.box [.int .i64 (n : Int), .slice (eRows es) .none], .ro [.int .i64 (n : Int), .slice (eRows es)], .box (iC R), .box (iC S), .roC [.tree (.int .i64 (n : Int)), .tree (.slice (eRows es)), .tree (.int .i64 (q : Int)), .ref 2 1 0 n n, .ref 3 1 0 n n, .tree (.int .i64 0)]] (.ref 3 1 0 n n) = some (.slice (iRows S)) := iC_ref hSl rfl
  clear hL hL1 hL2 hS0 hSW hW hDE hf hBu hBa hE hM hP hP' htop hlow hled hget hSb hb1 hb2
  simp only [tG, ofT, ofT1, ofTree, List.map_cons, List.map_nil] at hBg
  refine ⟨?_, ?_⟩
  ·
   refine ACall.of_body Try.func71 rfl (by kernel_rfl) ?_
   simp only [entry, Try.ntmps71, tG, tint, tints]
   refine zU ?_
   refine zJ (stop 5) trivial (zc hG trivial) (zc hBg trivial) trivial ?_
   refine AWp.freezeC (ks := [.tree (.int .i64 (n : Int)), .tree (.slice (eRows es)), .tree (.int .i64 (q : Int)), .ref 2 1 0 n n, .ref 3 1 0 n n, .tree (.int .i64 0)]) 4 rfl rfl ?_
   simp only [List.set_cons_succ, List.set_cons_zero]
   refine zJ trivial trivial trivial (zc hLd1 (zc hSt (zc hRs trivial))) trivial ?_
   simp [Rets, aret, Try.results71, ares, toT1, toT, hr2, hr3, hbi, tints, tint]
  ·have hT : ACallH Try.prog 71 [] [ofT (tG ⟨(n : Int), es⟩), .c (.int .i64 (q : Int)), .c (.slice (iRows d) .none)] ([.box [.int .i64 (n : Int), .slice (eRows es) .none], .ro [.int .i64 (n : Int), .slice (eRows es)], .box (iC R), .box (iC S)] ++ [.roC [.tree (.int .i64 (n : Int)), .tree (.slice (eRows es)), .tree (.int .i64 (q : Int)), .ref 2 1 0 n n, .ref 3 1 0 n n, .tree (.int .i64 0)]]) (.tup [.c (.ref 2 1 0 n n), .c (.ref 3 1 0 n n), .c (.int .i64 0)]) := by
    simp only [tG, ofT, ofT1, ofTree, List.map_cons, List.map_nil, List.cons_append, List.nil_append]
    refine ACallH.of_body Try.func71 rfl (by kernel_rfl) ?_
    simp only [entry, Try.ntmps71, List.length_cons, List.length_nil, Nat.reduceAdd, Nat.reduceSub, List.replicate_succ, List.replicate_zero, List.cons_append, List.nil_append]
    refine zJ (stop 5) trivial (zc hG trivial) (zc hBg trivial) trivial ?_
    refine AWp.freezeC (ks := [.tree (.int .i64 (n : Int)), .tree (.slice (eRows es)), .tree (.int .i64 (q : Int)), .ref 2 1 0 n n, .ref 3 1 0 n n, .tree (.int .i64 0)]) 4 rfl rfl ?_
    simp only [List.set_cons_succ, List.set_cons_zero]
    refine zJ trivial trivial trivial (zc hLd1 (zc hSt (zc hRs trivial))) trivial ?_
    simp [RetsH, aretH, ares, noTup, Try.results71]
   have hg4 : blkIn 4 (.box [.int .i64 (n : Int), .slice (eRows es) .none]) := by intro c hc; simp only [List.mem_cons, List.not_mem_nil, or_false] at hc; rcases hc with rfl | rfl <;> exact True.intro
   refine hT.trim (Nat.zero_le _) (fun x hx => ?_) (blksIn_cons hg4 (blksIn_cons True.intro (blksIn_cons iC_in (blksIn_cons iC_in (blksIn_nil _)))))
   simp only [List.mem_cons, List.not_mem_nil, or_false] at hx
   rcases hx with rfl | rfl | rfl
   ·show 2 < 4
    decide
   ·show 3 < 4
    decide
   ·exact True.intro
theorem iC_sh (k : Nat) (l : List Int) : (iC l).mapM (shCell k) = some (iC l) := by
 induction l with
 | nil => rfl
 | cons x l ih =>
  unfold iC at ih ⊢
  rw [List.map_cons, List.mapM_cons, ih]; rfl
structure Gok (n : Nat) (es : List E) : Prop where
 h1 : 1 ≤ n
 h12 : n ≤ 12
 hl : es.length ≤ 40
 hE : EsOk n es
 hm1 : ∀ e, e ∈ es → 1 ≤ e.m
 hM : Mult n (mulE es)
 hc : checkG ⟨(n : Int), es⟩ = 0
 hcc : connB ⟨(n : Int), es⟩ = true
structure Dok (n : Nat) (es : List E) (d : List Int) : Prop where
 len : d.length = n
 bnd : ∃ B Z P : Int, 0 ≤ B ∧ bndL B d ∧ 1 ≤ Z ∧ sizeE es ≤ Z ∧ sumR (fun v => max 0 (d.getD v 0)) n ≤ P ∧ powZ Z B (n - 1) + P ≤ 1048576 ∧ powZ Z B (n - 1) + n * P ≤ 1048576
theorem Dok.small {n : Nat} {es : List E} {d : List Int} (h : Dok n es d) : bndL 1048576 d := by
 obtain ⟨B, Z, P, b1, b2, b3, b4, b5, b6, b7⟩ := h.bnd
 have hP0 : 0 ≤ P := Int.le_trans (sumR_nonneg fun v _ => by omega) b5
 have := powZ_ge (show 0 ≤ Z by omega) (n - 1) b1
 exact bndL_mono b2 (by omega)
theorem Reduce_g {n : Nat} {es : List E} (g : Gok n es) {q : Nat} (hq : q < n) {d : List Int} (hd : Dok n es d) :
  ∃ R S : List Int, R.length = n ∧ S.length = n ∧ reducedAt n (mulE es) q (fun v => R.getD v 0) ∧ (∀ w, w < n → R.getD w 0 = d.getD w 0 - lap n (mulE es) (fun u => S.getD u 0) w) ∧ S.getD q 0 = 0 ∧ bndL 1048576 R ∧ bndL 1048576 S ∧ ACall Try.prog 71 [tG ⟨(n : Int), es⟩, tint q, tints d] (.tup [tints R, tints S, tint 0]) ∧ ACallH Try.prog 71 [] [ofT (tG ⟨(n : Int), es⟩), .c (.int .i64 (q : Int)), .c (.slice (iRows d) .none)] [.box [.int .i64 (n : Int), .slice (eRows es) .none], .ro [.int .i64 (n : Int), .slice (eRows es)], .box (iC R), .box (iC S)] (.tup [.c (.ref 2 1 0 n n), .c (.ref 3 1 0 n n), .c (.int .i64 0)]) := by
 obtain ⟨B, Z, P, b1, b2, b3, b4, b5, b6, b7⟩ := hd.bnd
 exact Reduce_ok n q es d g.h1 g.h12 hq hd.len g.hl g.hE g.hm1 g.hM g.hc g.hcc B Z P b1 b2 b3 b4 b5 b6 b7
theorem Winnable_ok {n : Nat} {es : List E} (g : Gok n es) {d : List Int} (hd : Dok n es d) :
  ∃ (b : Bool) (R S : List Int), (b = true ↔ win n (mulE es) (fun v => d.getD v 0)) ∧ R.length = n ∧ S.length = n ∧ reducedAt n (mulE es) 0 (fun v => R.getD v 0) ∧ (∀ w, w < n → R.getD w 0 = d.getD w 0 - lap n (mulE es) (fun u => S.getD u 0) w) ∧ S.getD 0 0 = 0 ∧ bndL 1048576 R ∧ bndL 1048576 S ∧ ACall Try.prog 48 [tG ⟨(n : Int), es⟩, tints d] (.tup [tbool b, tints R, tints S, tint 0]) ∧ ACallH Try.prog 48 [] [ofT (tG ⟨(n : Int), es⟩), .c (.slice (iRows d) .none)] [.box [.int .i64 (n : Int), .slice (eRows es) .none], .box [.int .i64 (n : Int), .slice (eRows es) .none], .ro [.int .i64 (n : Int), .slice (eRows es)], .box (iC R), .box (iC S)] (.tup [.c (.bool b), .c (.ref 3 1 0 n n), .c (.ref 4 1 0 n n), .c (.int .i64 0)]) := by
 have h1 := g.h1
 obtain ⟨R, S, e1, e2, e3, e4, e5, e6, e7, hR, hRB⟩ := Reduce_g g (q := 0) (by omega) hd
 have he : eqvD n (mulE es) (fun v => d.getD v 0) (fun v => R.getD v 0) := ⟨fun u => S.getD u 0, fun v hv => e4 v hv⟩
 have hw : win n (mulE es) (fun v => d.getD v 0) ↔ 0 ≤ R.getD 0 0 := by
  rw [← red_win g.hM (by omega) e3]
  exact ⟨fun h => h.eqv he, fun h => h.eqv he.symm⟩
 have r0 := iRows_get (getD_get (d := R) (i := 0) (by omega))
 refine ⟨decide (0 ≤ R.getD 0 0), R, S, by rw [decide_eq_true_eq]; exact hw.symm, e1, e2, e3, e4, e5, e6, e7, ?_⟩
 have hF : ACallH Try.prog 71 [.box [.int .i64 (n : Int), .slice (eRows es) .none]] [ofT (tG ⟨(n : Int), es⟩), .c (.int .i64 0), .c (.slice (iRows d) .none)] ([.box [.int .i64 (n : Int), .slice (eRows es) .none]] ++ [.box [.int .i64 (n : Int), .slice (eRows es) .none], .ro [.int .i64 (n : Int), .slice (eRows es)], .box (iC R), .box (iC S)]) (.tup [.c (.ref 3 1 0 n n), .c (.ref 4 1 0 n n), .c (.int .i64 0)]) :=
  ACallH.frame (ts := [tG ⟨(n : Int), es⟩, tint 0, tints d]) (X := [.box [.int .i64 (n : Int), .slice (eRows es) .none], .ro [.int .i64 (n : Int), .slice (eRows es)], .box (iC R), .box (iC S)]) hRB (by with_unfolding_all rfl) rfl (fun id hid => by
   simp only [List.length_cons, List.length_nil, Nat.reduceAdd] at hid
   match id, hid with
   | 0, _ => exact .inl ⟨_, _, rfl, rfl, rfl⟩
   | 1, _ => exact .inr ⟨_, rfl, rfl⟩
   | 2, _ => exact .inl ⟨_, _, rfl, iC_sh _ _, rfl⟩
   | 3, _ => exact .inl ⟨_, _, rfl, iC_sh _ _, rfl⟩) rfl
 simp only [tG, ofT, ofT1, ofTree, List.map_cons, List.map_nil, List.cons_append, List.nil_append] at hF
 have rc := iC_get (getD_get (d := R) (i := 0) (by omega))
 clear e3 e4 e5 e6 e7 he hw hRB
 generalize R.getD 0 0 = x at *
 have hR' : ACall Try.prog 71 [tG ⟨(n : Int), es⟩, tint 0, tints d] (.tup [tints R, tints S, tint 0]) := hR
 refine ⟨?_, ?_⟩
 ·
  by_cases hx : x ≥ 0
  ·have hx2 : decide (0 ≤ x) = true := decide_eq_true hx
   rw [hx2]
   refine ACall.of_body Try.func48 rfl (by kernel_rfl) ?_
   simp only [entry, Try.ntmps48, tG, tints]
   refine zU ?_
   refine zR (zc @r0 (zc @hx (zc @iRows_len (zc @e1 (zc @Int.toNat_zero trivial))))) (zc hR' trivial) trivial ?_
   simp [Rets, aret, Blk.cells, ty, Try.results48, ares, toT1, toT, borrow, borrow0, capCell, toTree0, tbool, tints, tint]
  ·have hx2 : decide (0 ≤ x) = false := decide_eq_false hx
   rw [hx2]
   refine ACall.of_body Try.func48 rfl (by kernel_rfl) ?_
   simp only [entry, Try.ntmps48, tG, tints]
   refine zU ?_
   refine zR (zc @r0 (zc @hx (zc @iRows_len (zc @e1 (zc @Int.toNat_zero trivial))))) (zc hR' trivial) trivial ?_
   simp [Rets, aret, Blk.cells, ty, Try.results48, ares, toT1, toT, borrow, borrow0, capCell, toTree0, tbool, tints, tint]
 ·
  have h0n : (0 : Int) < (n : Int) := by omega
  simp only [tG, ofT, ofT1, ofTree, List.map_cons, List.map_nil]
  by_cases hx : x ≥ 0
  ·have hx2 : decide (0 ≤ x) = true := decide_eq_true hx
   rw [hx2]
   refine ACallH.of_body Try.func48 rfl (by kernel_rfl) ?_
   simp only [entry, Try.ntmps48, List.length_cons, List.length_nil, Nat.reduceAdd, Nat.reduceSub, List.replicate_succ, List.replicate_zero, List.cons_append, List.nil_append]
   refine zJ trivial (zc @rc (zc @hx (zc @h0n (zc @iC_len (zc @e1 (zc @Int.toNat_zero (zc @Nat.zero_add trivial))))))) trivial (zc hF trivial) trivial ?_
   simp [RetsH, aretH, ares, noTup, Try.results48]
  ·have hx2 : decide (0 ≤ x) = false := decide_eq_false hx
   rw [hx2]
   refine ACallH.of_body Try.func48 rfl (by kernel_rfl) ?_
   simp only [entry, Try.ntmps48, List.length_cons, List.length_nil, Nat.reduceAdd, Nat.reduceSub, List.replicate_succ, List.replicate_zero, List.cons_append, List.nil_append]
   refine zJ trivial (zc @rc (zc @hx (zc @h0n (zc @iC_len (zc @e1 (zc @Int.toNat_zero (zc @Nat.zero_add trivial))))))) trivial (zc hF trivial) trivial ?_
   simp [RetsH, aretH, ares, noTup, Try.results48]
theorem own_ok (ls : List (List Int)) (n : Nat) (h1 : 1 ≤ n) (h12 : n ≤ 12) (hll : ls.length < 2 ^ 20) (hls : ∀ d, d ∈ ls → d.length = n ∧ bndL 1048576 d) : ACall Try.prog 86 [.t (.slice (llRows ls))] (tint 0) := by
 refine ACall.of_body Try.func86 rfl (by kernel_rfl) ?_
 simp only [entry, Try.ntmps86, tint]
 refine zU ?_
 refine zJ (stop 2) (zc @llRows_len trivial) trivial trivial trivial ?_
 refine AWp.loopS (α:=Nat) 36 (fun i=>[(0,.c (.slice (llRows ls) .none)),(8,.c (.slice (llRows ls) .none)),(9,.c (.int .i64 (ls.length : Int))),(10,.c (.int .i64 (i : Int)))]) (fun i=>[]) (fun i=>i ≤ ls.length) (fun i=>ls.length - i) (0) (hk:=Weak.headL 0 36 [0, 8, 9, 10] (zV3 @iC_in @bC_inS @stX_in)) (h0:=?_) (round:=fun i hI=>?_)
 ·exact Nat.zero_le _
 ·have hi : i ≤ ls.length := hI
  clear hI
  by_cases hil : i < ls.length
  ·have hiI : (i : Int) < (ls.length : Int) := by omega
   have hge := List.getElem?_eq_getElem hil
   have hg := llRows_get hge
   obtain ⟨d1, d2⟩ := hls _ (List.mem_of_getElem? hge)
   generalize ls[i] = d at *
   have hC := CheckD_ok d n h1 h12 d1 d2
   refine zR (zc @hiI (zc @hg (zc @llRows_len (zc @iRows_len (zc @d1 (zc @Nat.zero_add trivial)))))) (zc hC trivial) trivial ?_
   refine ⟨i + 1,Weak.headN 0 36 [0, 8, 9, 10] (zV3 @iC_in @bC_inS @stX_in),?_,?_⟩
   ·exact hil
   ·omega
  ·have hnl : ¬ (i : Int) < (ls.length : Int) := by omega
   refine zJ (stop 9) (zc @hnl (zc @llRows_len trivial)) trivial trivial trivial ?_
   refine AWp.loopS (α:=Nat) 36 (fun j=>[(0,.c (.slice (llRows ls) .none)),(22,.c (.slice (llRows ls) .none)),(23,.c (.int .i64 (ls.length : Int))),(24,.c (.int .i64 (j : Int)))]) (fun j=>[]) (fun j=>j ≤ ls.length) (fun j=>ls.length - j) (0) (hk:=Weak.headL 0 36 [0, 22, 23, 24] (zV3 @iC_in @bC_inS @stX_in)) (h0:=?_) (round:=fun j hI=>?_)
   ·exact Nat.zero_le _
   ·have hj : j ≤ ls.length := hI
    clear hI
    by_cases hjl : j < ls.length
    ·have hjI : (j : Int) < (ls.length : Int) := by omega
     have h0I : (0 : Int) < (ls.length : Int) := by omega
     have hge := List.getElem?_eq_getElem hjl
     have hg := llRows_get hge
     have hge0 := List.getElem?_eq_getElem (show 0 < ls.length by omega)
     have hg0 := llRows_get hge0
     obtain ⟨d1, d2⟩ := hls _ (List.mem_of_getElem? hge)
     obtain ⟨d3, d4⟩ := hls _ (List.mem_of_getElem? hge0)
     generalize ls[j] = d at *
     generalize ls[0] = d0 at *
     refine zR (zc @hjI (zc @h0I (zc @hg (zc @hg0 (zc @llRows_len (zc @iRows_len (zc @d1 (zc @d3 (zc @Int.toNat_zero (zc @Nat.zero_add trivial)))))))))) trivial trivial ?_
     refine ⟨j + 1,Weak.headN 0 36 [0, 22, 23, 24] (zV3 @iC_in @bC_inS @stX_in),?_,?_⟩
     ·exact hjl
     ·omega
    ·have hnl2 : ¬ (j : Int) < (ls.length : Int) := by omega
     refine zR (zc @hnl2 trivial) trivial trivial ?_
     simp [Rets, aret, Blk.cells, ty, Try.results86, ares, toT1, toT, borrow, borrow0, capCell, toTree0, tint]
end Go.Proofs.Ytdhfgihnoimoaaa
