/- A part of the proof: contracts of functions of the program, and plain lemmas. -/
import Derived.Test.YtfkegnhpihoncaaGreatPart22
import Derived.Test.YtfkegnhpihoncaaGreatLayerC
import Derived.Test.YtfkegnhpihoncaaGreatPart14
import Derived.Test.YtfkegnhpihoncaaGreatPart16
import Derived.Test.YtfkegnhpihoncaaGreatPart18
import Derived.Test.YtfkegnhpihoncaaGreatPart01
import Derived.Test.YtfkegnhpihoncaaGreatPart21
set_option linter.all false
namespace Go.Proofs.YtfkegnhpihoncaaGreat
open Go.Sp
set_option linter.unusedSimpArgs false
set_option linter.unusedVariables false
set_option maxHeartbeats 4000000
set_option maxRecDepth 100000
theorem rDual_ok (r : R) (hs : RSm r) : ACall Tryz.prog 23 [tR r] (.tup [tR (dualD r), tints (dualN r), tint (dualE r)]) := by
  have hC := rchecked_ok r hs
  by_cases he : ribE r = 0
  case neg =>
    have e1 : dualE r = ribE r := by unfold dualE; rw [if_pos he]
    have e2 : dualD r = ⟨0, [], []⟩ := by unfold dualD; rw [if_pos (by rw [e1]; exact he)]
    have e3 : dualN r = [] := by unfold dualN; rw [if_pos (by rw [e1]; exact he)]
    rw [e1, e2, e3]
    rw [if_pos he] at hC
    clear e1 e2 e3
    generalize ribE r = E at *
    obtain ⟨n, es, ar⟩ := r
    refine ACall.of_body Tryz.func23 rfl (by kernel_rfl) ?_
    simp only [entry, Tryz.ntmps23, tR]
    refine zU ?_
    refine zR (zc @he trivial) (zc hC trivial) trivial ?_
    simp [Rets, aret, Blk.cells, ty, Tryz.results23, ares, toT1, toT, borrow, borrow0, capCell, toTree0, tint, tR, tints, eRows, llRows, iRows]
  have hr := rok_of he
  have hF := faces_ok r hs hr
  have hlen : (endsL r.es).length ≤ 2000 := ends_len (g := r.g) hs.es hr.c
  rw [if_neg (by omega), he] at hC
  have hfl := facesI_len r
  by_cases h12 : 12 < (facesR r).length
  · have e1 : dualE r = 5 := by unfold dualE; rw [if_neg (by omega), if_pos h12]
    have e2 : dualD r = ⟨0, [], []⟩ := by unfold dualD; rw [if_pos (by rw [e1]; decide)]
    have e3 : dualN r = [] := by unfold dualN; rw [if_pos (by rw [e1]; decide)]
    rw [e1, e2, e3]
    have h12I : 12 < ((facesI r).length : Int) := by omega
    clear e1 e2 e3
    generalize facesI r = F at *
    generalize tabI (2 * (endsL r.es).length) (ofN (fR (endsL r.es) r.ar) (2 * (endsL r.es).length) (2 * (endsL r.es).length)) = O at *
    generalize endsL r.es = L at *
    clear he hs hr hfl h12
    obtain ⟨n, es, ar⟩ := r
    refine ACall.of_body Tryz.func23 rfl (by kernel_rfl) ?_
    simp only [entry, Tryz.ntmps23, tR]
    refine zU ?_
    refine zR (zc @pRows_len (zc @llRows_len (zc @h12I trivial))) (zc hC (zc hF trivial)) trivial ?_
    simp [Rets, aret, Blk.cells, ty, Tryz.results23, ares, toT1, toT, borrow, borrow0, capCell, toTree0, tint, tR, tints, eRows, llRows, iRows]
  · have e1 : dualE r = (dualM r).2 := by unfold dualE; rw [if_neg (by omega), if_neg h12]
    have hja := jK_all r
    have hMk := Make_ok (facesR r).length (joinsR r) (by rw [joinsR_len]; omega)
    have hW := dual_walk r.n r.es r.ar (endsL r.es) (facesI r) (tabI (2 * (endsL r.es).length) (ofF r)) (dualM r) hC hF (by rw [hja, hfl]; exact hMk) hlen (tabI_len _ _) (fun v hv => by
      obtain ⟨x, _, rfl⟩ := List.mem_map.1 hv
      have := ofN_range (fR (endsL r.es) r.ar) (2 * (endsL r.es).length) (2 * (endsL r.es).length) x
      unfold ofF; omega) (by omega) (fun l hl x hx => facesI_mem hr hl hx) (fun l hl => facesI_short hr hl)
    rw [hja] at hW
    unfold dualD dualN dualAr
    rw [e1]
    exact hW
end Go.Proofs.YtfkegnhpihoncaaGreat
set_option linter.all false
namespace Go.Proofs.YtfkegnhpihoncaaGreat
open Go.Sp
set_option linter.unusedSimpArgs false
set_option linter.unusedVariables false
set_option maxHeartbeats 4000000
set_option maxRecDepth 100000
def triG : G := ⟨3, [⟨0, 1, 1⟩, ⟨0, 2, 1⟩, ⟨1, 2, 1⟩]⟩
def triR : R := ⟨3, [⟨0, 1, 1⟩, ⟨0, 2, 1⟩, ⟨1, 2, 1⟩], [[0, 2], [1, 4], [3, 5]]⟩
def loopR (l : List Int) : R := ⟨1, [⟨0, 0, 2⟩], [l]⟩
theorem tri_joined : joinedE triG = 0 := by kernel_rfl
theorem tri_halves : halvesL (endsL triG.es) triG.n.toNat (2 * (endsL triG.es).length) = [[0, 2], [1, 4], [3, 5]] := by kernel_rfl
theorem tri_rib : ribE triR = 0 := by kernel_rfl
theorem tri_faces : facesI triR = [[0, 4, 3], [1, 2, 5]] := by kernel_rfl
theorem tri_flen : (facesR triR).length = 2 := by kernel_rfl
theorem tri_joins : joinsR triR = [(0, 1), (1, 0), (0, 1)] := by kernel_rfl
theorem tri_num : numI (joinsR triR) = [0, 1, 2] := by kernel_rfl
theorem tri_ar : dualAr triR = [[0, 4, 2], [1, 3, 5]] := by kernel_rfl
theorem tri_bag : bagL [(0, 1), (1, 0), (0, 1)] = [⟨0, 1, 3⟩] := by kernel_rfl
theorem loopA_rib : ribE (loopR [0, 1, 2, 3]) = 0 := by kernel_rfl
theorem loopB_rib : ribE (loopR [0, 2, 1, 3]) = 0 := by kernel_rfl
theorem loopA_faces : facesI (loopR [0, 1, 2, 3]) = [[0, 2], [1], [3]] := by kernel_rfl
theorem loopB_faces : facesI (loopR [0, 2, 1, 3]) = [[0, 3, 1, 2]] := by kernel_rfl
theorem loopA_genus : genusR (loopR [0, 1, 2, 3]) = 0 := by kernel_rfl
theorem loopB_genus : genusR (loopR [0, 2, 1, 3]) = 1 := by kernel_rfl
theorem tri_make : dualM triR = (⟨2, [⟨0, 1, 3⟩]⟩, 0) := by
  unfold dualM
  rw [tri_flen, tri_joins]
  unfold makeE
  rw [if_neg (by decide), if_neg (by decide), if_neg, if_neg, tri_bag]
  · rw [sortE_eq (l := [⟨0, 1, 3⟩]) (List.pairwise_singleton _ _) (List.Perm.refl _)]; rfl
  · rw [tri_bag]
    rintro ⟨e, he, h⟩
    simp at he
    subst he
    simp at h
  · rintro ⟨p, hp, h⟩
    refine h ?_
    simp at hp
    rcases hp with rfl | rfl | rfl <;> decide
theorem tri_dualE : dualE triR = 0 := by
  unfold dualE
  rw [tri_rib, if_neg (by decide), tri_flen, if_neg (by decide), tri_make]
theorem tri_dualD : dualD triR = ⟨2, [⟨0, 1, 3⟩], [[0, 4, 2], [1, 3, 5]]⟩ := by
  unfold dualD
  rw [tri_dualE, if_neg (by decide), tri_make, tri_ar]
theorem tri_dualN : dualN triR = [0, 1, 2] := by
  unfold dualN
  rw [tri_dualE, if_neg (by decide), tri_num]
theorem rsm_tri : RSm triR := ⟨by decide, by decide, by decide⟩
theorem rsm_loop (l : List Int) (h : l.length < 2 ^ 20) : RSm (loopR l) := ⟨by simp [loopR], by simp [loopR], fun x hx => by simp [loopR] at hx; subst hx; exact h⟩
end Go.Proofs.YtfkegnhpihoncaaGreat
set_option linter.all false
namespace Go.Proofs.YtfkegnhpihoncaaGreat
open Go.Sp
set_option linter.unusedSimpArgs false
set_option linter.unusedVariables false
def nrmP (p : Int × Int) : Int × Int := (min p.1 p.2, max p.1 p.2)
def lexP (p q : Int × Int) : Prop := p.1 < q.1 ∨ (p.1 = q.1 ∧ p.2 ≤ q.2)
theorem ends_sorted {es : List E} (hs : es.Pairwise ltE) : (endsL es).Pairwise lexP := by
  induction es with
  | nil => exact List.Pairwise.nil
  | cons x xs ih =>
    have hp := List.pairwise_cons.1 hs
    have e : endsL (x :: xs) = endsL [x] ++ endsL xs := by rw [← endsL_append]; rfl
    rw [e, endsL_one, List.pairwise_append]
    refine ⟨?_, ih hp.2, fun a ha b hb => ?_⟩
    · rw [List.pairwise_replicate]
      exact .inr (.inr ⟨rfl, Int.le_refl _⟩)
    · obtain ⟨-, rfl⟩ := List.mem_replicate.1 ha
      obtain ⟨y, hy, rfl⟩ := endsL_mem hb
      have := hp.1 y hy
      unfold ltE at this
      unfold lexP
      simp only
      omega
theorem perm_of_count {l m : List (Int × Int)} (hl : ∀ p, p ∈ l → p.1 ≤ p.2) (hm : ∀ p, p ∈ m → p.1 ≤ p.2) (h : ∀ a b, l.countP (isP a b) = m.countP (isP a b)) : l.Perm m := by
  rw [List.perm_iff_count]
  intro p
  have key : ∀ k : List (Int × Int), (∀ q, q ∈ k → q.1 ≤ q.2) → k.count p = if p.1 ≤ p.2 then k.countP (isP p.1 p.2) else 0 := fun k hk => by
    by_cases hp : p.1 ≤ p.2
    · rw [if_pos hp, List.count]
      refine List.countP_congr fun q hq => ?_
      have := hk q hq
      obtain ⟨a, b⟩ := p
      obtain ⟨c, d⟩ := q
      unfold isP
      simp only at this hp ⊢
      rw [beq_iff_eq, Prod.mk.injEq, decide_eq_true_eq]
      omega
    · rw [if_neg hp, List.count_eq_zero]
      exact fun hq => hp (hk p hq)
  rw [key l hl, key m hm, h]
theorem lexP_anti {p q : Int × Int} (h1 : lexP p q) (h2 : lexP q p) : p = q := by
  obtain ⟨a, b⟩ := p
  obtain ⟨c, d⟩ := q
  unfold lexP at h1 h2
  simp only at h1 h2
  rw [Prod.mk.injEq]; omega
theorem made_ends {n : Int} {J : List (Int × Int)} {zs : List Nat} (hJ : ∀ p, p ∈ J → okP n p) (hz : NOrd J zs) :
    endsL (sortE (bagL J)) = zs.map fun e => nrmP (J.getD e (0, 0)) := by
  have hb := bag_ok hJ J.length (Nat.le_refl _)
  rw [List.take_length] at hb
  have hsort := sortE_sorted hb.d
  have hcnt : ∀ a b, cntL (bagL J) a b = (J.countP (isP a b) : Int) := fun a b => by
    have e := cntL_bag J a b J.length (Nat.le_refl _)
    rwa [List.take_length] at e
  have hr : ∀ e, e ∈ sortE (bagL J) → e.a ≤ e.b ∧ 1 ≤ e.m := fun e he => by
    have he' := (sortE_perm (bagL J)).mem_iff.1 he
    have h1 := hb.m e he'
    have h2 := hb.r e he'
    omega
  have hd2 : ∀ a b, cntL (sortE (bagL J)) a b = cntL (bagL J) a b := fun a b => by
    have hds := distinct_of hsort
    by_cases h0 : cntL (bagL J) a b = 0
    · rw [h0]
      by_cases h1 : cntL (sortE (bagL J)) a b = 0
      · exact h1
      · have hm := (sortE_perm (bagL J)).mem_iff.1 (mem_of_cntL h1)
        have := cntL_of_mem hb.d hm
        simp only at this
        omega
    · have hm := (sortE_perm (bagL J)).mem_iff.2 (mem_of_cntL h0)
      exact cntL_of_mem hds hm
  refine List.Perm.eq_of_pairwise (le := lexP) (fun a b _ _ h1 h2 => lexP_anti h1 h2) (ends_sorted hsort) ?_ (perm_of_count ?_ ?_ fun a b => ?_)
  · rw [List.pairwise_map]
    refine hz.s.imp fun {a b} h => ?_
    unfold ltN mnL mxL at h
    unfold lexP nrmP
    simp only
    omega
  · intro p hp
    obtain ⟨e, he, rfl⟩ := endsL_mem hp
    exact (hr e he).1
  · intro p hp
    obtain ⟨e, _, rfl⟩ := List.mem_map.1 hp
    unfold nrmP
    simp only; omega
  · have h1 := cnt_ends hsort hr a b
    rw [hd2, hcnt] at h1
    have h2 : (zs.map fun e => nrmP (J.getD e (0, 0))).countP (isP a b) = J.countP (isP a b) := by
      rw [List.countP_map]
      have e1 : (isP a b ∘ fun e => nrmP (J.getD e (0, 0))) = fun e => isP a b (J.getD e (0, 0)) := by
        funext e
        show isP a b (nrmP _) = _
        unfold isP nrmP
        simp only
        rw [decide_eq_decide]
        omega
      rw [e1, hz.p.countP_eq]
      have e2 : J = (List.range J.length).map fun e => J.getD e (0, 0) := by
        apply List.ext_getElem?
        intro i
        rw [List.getElem?_map]
        by_cases hi : i < J.length
        · rw [List.getElem?_range hi, Option.map_some, List.getD_eq_getElem?_getD, List.getElem?_eq_getElem hi]; rfl
        · rw [List.getElem?_eq_none (by omega), List.getElem?_eq_none (by simp; omega)]; rfl
      conv => rhs; rw [e2]
      rw [List.countP_map]; rfl
    omega
theorem nord_ex (J : List (Int × Int)) : ∃ zs, NOrd J zs := by
  by_cases h0 : 0 < J.length
  · obtain ⟨zs, h, _⟩ := sortN_ord J h0
    exact ⟨zs, h⟩
  · have e : J.length = 0 := by omega
    exact ⟨[], ⟨by rw [e]; exact List.Perm.refl _, List.Pairwise.nil⟩⟩
end Go.Proofs.YtfkegnhpihoncaaGreat
set_option linter.all false
namespace Go.Proofs.YtfkegnhpihoncaaGreat
open Go.Sp
set_option linter.unusedSimpArgs false
set_option linter.unusedVariables false
section
variable {N : Nat} {f : Nat → Nat}
theorem of_spec (hp : PermN N f) {x : Nat} (hx : x < N) : ∃ (i m : Nat), ofN f N N x = (i : Int) ∧ (leadsL f N N)[i]? = some m ∧ x ∈ faceF f N m := by
  obtain ⟨m, hm1, hl, hxm, _⟩ := lead_of hp hx
  have hmem : faceF f N m ∈ facesN f N N := List.mem_map.2 ⟨m, leadsL_mem.2 ⟨by omega, hl⟩, rfl⟩
  unfold ofN
  cases hf : (facesN f N N).findIdx? (fun l => decide (x ∈ l)) with
  | none =>
    rw [List.findIdx?_eq_none_iff] at hf
    have := hf _ hmem
    simp only [decide_eq_false_iff_not] at this
    exact absurd hxm this
  | some i =>
    obtain ⟨hi, h1, _⟩ := List.findIdx?_eq_some_iff_getElem.1 hf
    rw [decide_eq_true_eq] at h1
    have hi2 : i < (leadsL f N N).length := by unfold facesN at hi; rwa [List.length_map] at hi
    have e : (facesN f N N)[i]? = some (faceF f N (leadsL f N N)[i]) := by unfold facesN; rw [List.getElem?_map, List.getElem?_eq_getElem hi2]; rfl
    rw [List.getElem?_eq_getElem hi] at e
    rw [Option.some.inj e] at h1
    exact ⟨i, _, rfl, List.getElem?_eq_getElem hi2, h1⟩
theorem leads_nodup : (leadsL f N N).Nodup := List.nodup_range.filter _
theorem lead_at {i m : Nat} (h : (leadsL f N N)[i]? = some m) : m < N ∧ leadB f N m = true := leadsL_mem.1 (List.mem_of_getElem? h)
theorem lead_idx {i j m : Nat} (h1 : (leadsL f N N)[i]? = some m) (h2 : (leadsL f N N)[j]? = some m) : i = j := by
  obtain ⟨a1, b1⟩ := List.getElem?_eq_some_iff.1 h1
  obtain ⟨a2, b2⟩ := List.getElem?_eq_some_iff.1 h2
  exact nodup_at leads_nodup a1 a2 (by rw [b1, b2])
theorem of_mem (hp : PermN N f) {i m x : Nat} (h : (leadsL f N N)[i]? = some m) : x ∈ faceF f N m ↔ x < N ∧ ofN f N N x = (i : Int) := by
  have hm := lead_at h
  constructor
  · intro hx
    have hxl := face_lt hp hm.1 hx
    obtain ⟨j, k, e1, e2, e3⟩ := of_spec hp hxl
    have hk := lead_at e2
    have := lead_unique hp hm.1 hk.1 hm.2 hk.2 hx e3
    subst this
    have := lead_idx h e2
    subst this
    exact ⟨hxl, e1⟩
  · rintro ⟨hxl, e⟩
    obtain ⟨j, k, e1, e2, e3⟩ := of_spec hp hxl
    have : i = j := by omega
    subst this
    rw [h] at e2
    cases e2
    exact e3
theorem of_same (hp : PermN N f) {x y : Nat} (hx : x < N) (hy : y < N) : ofN f N N x = ofN f N N y ↔ cycR f x y := by
  obtain ⟨i, m, e1, e2, e3⟩ := of_spec hp hx
  have hm := lead_at e2
  rw [e1]
  constructor
  · intro h
    have h2 := (of_mem hp e2).2 ⟨hy, h.symm⟩
    have h3 := face_trans hp hx (face_symm hp hm.1 e3) h2
    exact (face_mem hp hx).1 h3
  · intro h
    have h2 := face_trans hp hm.1 e3 ((face_mem hp hx).2 h)
    exact ((of_mem hp e2).1 h2).2.symm
theorem of_bnd (hp : PermN N f) {x : Nat} (hx : x < N) : 0 ≤ ofN f N N x ∧ ofN f N N x < ((facesN f N N).length : Int) := by
  obtain ⟨i, m, e1, e2, e3⟩ := of_spec hp hx
  have := (List.getElem?_eq_some_iff.1 e2).1
  unfold facesN
  rw [List.length_map, e1]; omega
theorem cyc_step (hp : PermN N f) {x : Nat} (hx : x < N) : ofN f N N (f x) = ofN f N N x := ((of_same hp hx (hp.lt x hx)).2 ⟨1, rfl⟩).symm
end
theorem ncls_all {n : Nat} {R : Nat → Nat → Prop} (h0 : 0 < n) (h : ∀ x y, x < n → y < n → R x y) : ncls n R = 1 := by
  rw [ncls_congr (S := fun x y => (fun _ : Nat => 0) x = (fun _ : Nat => 0) y) fun x y hx hy => ⟨fun _ => rfl, fun _ => h x y hx hy⟩]
  exact ncls_onto _ (fun x _ => by omega) fun v hv => ⟨0, h0, by omega⟩
theorem same_cyc {r : R} (hr : ROk r) {x y : Nat} (hx : x < 2 * (endsL r.es).length) (hy : y < 2 * (endsL r.es).length) (hg : gR (endsL r.es) x = gR (endsL r.es) y) : cycR (sR (endsL r.es) r.ar) x y := by
  have ax := atL_range hr.c hx
  have ay := atL_range hr.c hy
  have hat : atL (endsL r.es) x = atL (endsL r.es) y := by unfold gR at hg; omega
  obtain ⟨l, q1, q2, q3, q4⟩ := hr.row hx
  refine row_cyc q3.nd (fun z hz => ?_) q4 (q3.sup _ (ownL_mem.2 ⟨by omega, by omega, by rw [Int.toNat_natCast]; exact hat.symm⟩))
  have hz2 := ownL_mem.1 (q3.sub _ hz)
  rw [Int.toNat_natCast] at hz2
  have hzl : z < 2 * (endsL r.es).length := by omega
  have hzn := hr.next hzl
  have : nextR (endsL r.es) r.ar z = nextI l (z : Int) := by unfold nextR; rw [hz2.2.2, q2]
  unfold sR
  rw [← this]; omega
def numN (J : List (Int × Int)) (e : Nat) : Nat := ((List.range J.length).filter fun f => decide (ltN J f e)).length
section
variable {J : List (Int × Int)}
theorem num_lt {e : Nat} (he : e < J.length) : numN J e < J.length := by
  obtain ⟨zs, hz⟩ := nord_ex J
  have hm : e ∈ zs := hz.p.mem_iff.2 (List.mem_range.2 he)
  obtain ⟨i, hi, rfl⟩ := List.getElem_of_mem hm
  have := hz.pos (List.getElem?_eq_getElem hi)
  unfold numN
  rw [this, ← hz.len]; exact hi
theorem num_at {zs : List Nat} (hz : NOrd J zs) {e : Nat} (he : e < J.length) : zs[numN J e]? = some e := by
  have hm : e ∈ zs := hz.p.mem_iff.2 (List.mem_range.2 he)
  obtain ⟨i, hi, rfl⟩ := List.getElem_of_mem hm
  have e0 := List.getElem?_eq_getElem hi
  have := hz.pos e0
  unfold numN
  rw [this]; exact e0
theorem num_inj {e f : Nat} (he : e < J.length) (hf : f < J.length) (h : numN J e = numN J f) : e = f := by
  obtain ⟨zs, hz⟩ := nord_ex J
  have h1 := num_at hz he
  have h2 := num_at hz hf
  rw [h, h2] at h1
  exact (Option.some.inj h1).symm
def twB (o : Nat → Int) (x : Nat) : Bool := decide (o (oppH x) < o x ∨ (o x = o (oppH x) ∧ x % 2 = 1))
def dH (J : List (Int × Int)) (o : Nat → Int) (x : Nat) : Nat := 2 * numN J (x / 2) + (if twB o x then 1 else 0)
theorem tw_opp (o : Nat → Int) (x : Nat) : twB o (oppH x) = !twB o x := by
  unfold twB
  rw [Bool.eq_iff_iff, Bool.not_eq_true', decide_eq_true_eq, decide_eq_false_iff_not, oppH_opp]
  have : oppH x % 2 = 1 - x % 2 := by unfold oppH; omega
  omega
theorem opp_half (x : Nat) : oppH x / 2 = x / 2 := by unfold oppH; omega
theorem dH_half (o : Nat → Int) (x : Nat) : dH J o x / 2 = numN J (x / 2) := by unfold dH; split <;> omega
theorem dH_mod (o : Nat → Int) (x : Nat) : dH J o x % 2 = if twB o x then 1 else 0 := by unfold dH; split <;> omega
theorem dH_opp (o : Nat → Int) (x : Nat) : dH J o (oppH x) = oppH (dH J o x) := by
  unfold dH
  rw [tw_opp, opp_half]
  unfold oppH
  cases twB o x <;> simp <;> omega
theorem dH_lt (o : Nat → Int) {x : Nat} (hx : x < 2 * J.length) : dH J o x < 2 * J.length := by
  have := num_lt (J := J) (e := x / 2) (by omega)
  unfold dH; split <;> omega
theorem dH_inj (o : Nat → Int) {x y : Nat} (hx : x < 2 * J.length) (hy : y < 2 * J.length) (h : dH J o x = dH J o y) : x = y := by
  have h1 := dH_half (J := J) o x
  have h2 := dH_half (J := J) o y
  have he := num_inj (J := J) (e := x / 2) (f := y / 2) (by omega) (by omega) (by rw [← h1, ← h2, h])
  by_cases hxy : x = y
  · exact hxy
  · have hop : y = oppH x := by unfold oppH; omega
    have m1 := dH_mod (J := J) o x
    have m2 := dH_mod (J := J) o y
    rw [hop, tw_opp, ← hop, ← h, m1] at m2
    cases hb : twB o x <;> rw [hb] at m2 <;> simp at m2
theorem dH_perm (o : Nat → Int) : PermN (2 * J.length) (dH J o) := ⟨fun x hx => dH_lt o hx, fun x y hx hy e => dH_inj o hx hy e⟩
theorem dH_onto (o : Nat → Int) {y : Nat} (hy : y < 2 * J.length) : ∃ x, x < 2 * J.length ∧ dH J o x = y := by
  have h := (perm_range (dH_perm (J := J) o)).mem_iff.2 (List.mem_range.2 hy)
  obtain ⟨x, hx, e⟩ := List.mem_map.1 h
  exact ⟨x, List.mem_range.1 hx, e⟩
theorem at_dual {o : Nat → Int} {L : List (Int × Int)} {zs : List Nat} (hz : NOrd J zs) (hL : L = zs.map fun e => nrmP (J.getD e (0, 0))) (hJ : ∀ e, e < J.length → J[e]? = some (o (2 * e), o (2 * e + 1))) {x : Nat} (hx : x < 2 * J.length) :
    atL L (dH J o x) = o x := by
  have he : x / 2 < J.length := by omega
  have h1 := num_at hz he
  have h2 : L[numN J (x / 2)]? = some (nrmP (o (2 * (x / 2)), o (2 * (x / 2) + 1))) := by
    rw [hL, List.getElem?_map, h1, Option.map_some, List.getD_eq_getElem?_getD, hJ _ he]; rfl
  have h3 : L.getD (dH J o x / 2) (0, 0) = nrmP (o (2 * (x / 2)), o (2 * (x / 2) + 1)) := by
    rw [dH_half, List.getD_eq_getElem?_getD, h2]; rfl
  unfold atL
  rw [h3, dH_mod]
  have hxx : x = 2 * (x / 2) ∨ x = 2 * (x / 2) + 1 := by omega
  have ho : oppH (2 * (x / 2)) = 2 * (x / 2) + 1 := by unfold oppH; omega
  have ho2 : oppH (2 * (x / 2) + 1) = 2 * (x / 2) := by unfold oppH; omega
  unfold nrmP twB
  simp only
  generalize x / 2 = e at *
  rcases hxx with hxx | hxx <;> subst hxx
  · rw [ho]
    by_cases c : o (2 * e + 1) < o (2 * e) ∨ o (2 * e) = o (2 * e + 1) ∧ 2 * e % 2 = 1
    · rw [decide_eq_true c]
      simp only [if_true]
      rw [if_neg (by omega)]; omega
    · rw [decide_eq_false c]
      simp only [Bool.false_eq_true, if_false, if_true]
      omega
  · rw [ho2]
    by_cases c : o (2 * e) < o (2 * e + 1) ∨ o (2 * e + 1) = o (2 * e) ∧ (2 * e + 1) % 2 = 1
    · rw [decide_eq_true c]
      simp only [if_true]
      rw [if_neg (by omega)]; omega
    · rw [decide_eq_false c]
      simp only [Bool.false_eq_true, if_false, if_true]
      omega
end
end Go.Proofs.YtfkegnhpihoncaaGreat
set_option linter.all false
namespace Go.Proofs.YtfkegnhpihoncaaGreat
open Go.Sp
set_option linter.unusedSimpArgs false
set_option linter.unusedVariables false
def seenL (r : R) : List Nat := (facesR r).flatten
def mB (l : List Nat) : List (MKey × MV) := l.map fun x : Nat => (.int (x : Int), .c (.bool true))
end Go.Proofs.YtfkegnhpihoncaaGreat
