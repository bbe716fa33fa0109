/- A part of the proof: contracts of functions of the program, and plain lemmas. -/
import Derived.Test.YtfkegnhpihoncaaGreatPart01
import Derived.Test.YtfkegnhpihoncaaGreatPart13
import Derived.Test.YtfkegnhpihoncaaGreatPart12
import Derived.Test.YtfkegnhpihoncaaGreatPart09
import Derived.Test.YtfkegnhpihoncaaGreatLayerC
set_option linter.all false
namespace Go.Proofs.YtfkegnhpihoncaaGreat
open Go.Sp
set_option linter.unusedSimpArgs false
set_option linter.unusedVariables false
open Classical in
theorem faces_ncls {N : Nat} {f : Nat → Nat} (hp : PermN N f) : (facesN f N N).length = ncls N (cycR f) := by
  unfold facesN leadsL ncls
  rw [List.length_map]
  congr 1
  refine List.filter_congr fun h hh => ?_
  have hh' := List.mem_range.1 hh
  rw [Bool.eq_iff_iff, leadB_iff, decide_eq_true_eq]
  constructor
  · intro H y hy ⟨i, hi⟩
    exact H y ((face_mem hp hh').2 ⟨i, hi⟩)
  · intro H y hy
    exact H y (face_lt hp hh' hy) ((face_mem hp hh').1 hy)
open Classical in
theorem ncls_onto {N n : Nat} (g : Nat → Nat) (hr : ∀ x, x < N → g x < n) (hs : ∀ v, v < n → ∃ x, x < N ∧ g x = v) : ncls N (fun x y => g x = g y) = n := by
  unfold ncls
  generalize hl : List.filter _ (List.range N) = l
  have hmem : ∀ h, h ∈ l ↔ h < N ∧ ∀ y, y < N → g h = g y → h ≤ y := fun h => by rw [← hl]; simp
  have hnd : l.Nodup := by rw [← hl]; exact List.nodup_range.filter _
  have hinj : ∀ a b, a ∈ l → b ∈ l → g a = g b → a = b := fun a b ha hb e => by
    have h1 := (hmem a).1 ha
    have h2 := (hmem b).1 hb
    have := h1.2 b h2.1 e
    have := h2.2 a h1.1 e.symm
    omega
  have hnd2 : (l.map g).Nodup := by
    rw [List.Nodup, List.pairwise_map]
    exact List.Pairwise.imp_of_mem (fun {a b} ha hb hne e => hne (hinj a b ha hb e)) hnd
  have h1 := List.Nodup.length_le_of_subset hnd2 (l₂ := List.range n) (fun v hv => by
    obtain ⟨x, hx, rfl⟩ := List.mem_map.1 hv
    exact List.mem_range.2 (hr x ((hmem x).1 hx).1))
  have h2 := List.Nodup.length_le_of_subset (List.nodup_range (n := n)) (l₂ := l.map g) (fun v hv => by
    obtain ⟨x, hx, e⟩ := hs v (List.mem_range.1 hv)
    obtain ⟨m, m1, ⟨m2, m3⟩, m4⟩ := least_of (P := fun y => y < N ∧ g y = v) ⟨hx, e⟩
    exact List.mem_map.2 ⟨m, (hmem m).2 ⟨m2, fun y hy he => m4 y ⟨hy, by rw [← he, m3]⟩⟩, m3⟩)
  simp at h1 h2
  omega
theorem conn_snoc {l : List (Int × Int)} {a b : Nat} {x y : Nat} : Conn (l ++ [((a : Int), (b : Int))]) x y ↔ Conn l x y ∨ (Conn l a x ∨ Conn l b x) ∧ (Conn l a y ∨ Conn l b y) := by
  constructor
  · intro h
    induction h with
    | refl => exact .inl .refl
    | @step u w _ hs ih =>
      have hor : (((u : Int), (w : Int)) ∈ l ∨ ((w : Int), (u : Int)) ∈ l) ∨ (u = a ∧ w = b) ∨ (u = b ∧ w = a) := by
        rcases hs with h | h <;> rcases List.mem_append.1 h with h | h
        · exact .inl (.inl h)
        · simp at h; exact .inr (.inl ⟨by omega, by omega⟩)
        · exact .inl (.inr h)
        · simp at h; exact .inr (.inr ⟨by omega, by omega⟩)
      rcases hor with h | ⟨rfl, rfl⟩ | ⟨rfl, rfl⟩
      · rcases ih with ih | ⟨i1, i2⟩
        · exact .inl (ih.step h)
        · exact .inr ⟨i1, i2.imp (fun q => q.step h) (fun q => q.step h)⟩
      · rcases ih with ih | ⟨i1, i2⟩
        · exact .inr ⟨.inl ih.symm, .inr .refl⟩
        · exact .inr ⟨i1, .inr .refl⟩
      · rcases ih with ih | ⟨i1, i2⟩
        · exact .inr ⟨.inr ih.symm, .inl .refl⟩
        · exact .inr ⟨i1, .inl .refl⟩
  · have hm : ∀ {u w}, Conn l u w → Conn (l ++ [((a : Int), (b : Int))]) u w := fun h => h.mono fun p hp => List.mem_append_left _ hp
    have hab : Conn (l ++ [((a : Int), (b : Int))]) a b := .one (.inl (by simp))
    rintro (h | ⟨h1, h2⟩)
    · exact hm h
    · rcases h1 with h1 | h1 <;> rcases h2 with h2 | h2
      · exact (hm h1).symm.trans (hm h2)
      · exact (hm h1).symm.trans (hab.trans (hm h2))
      · exact (hm h1).symm.trans (hab.symm.trans (hm h2))
      · exact (hm h1).symm.trans (hm h2)
theorem conn_eqv (N : Nat) (l : List (Int × Int)) : Eqv N (Conn l) := ⟨fun _ _ => .refl, fun _ _ _ _ h => h.symm, fun _ _ _ _ _ _ h1 h2 => h1.trans h2⟩
open Classical in
theorem parts_ncls {g : G} {n : Nat} (hc : checkG g = 0) (hn : g.n = n) : partsN g.es n n = ncls n (Conn (endsL g.es)) := by
  have h12 := (checkG_zero.1 hc).1
  have h1 := parts_roots hc hn n (Nat.le_refl _)
  rw [rootsN_filter] at h1
  have h2 : partsN g.es n n = ((List.range n).filter fun v => decide ((genS (endsL g.es)).1[v]? = some v)).length := by omega
  rw [h2]
  unfold ncls
  congr 1
  refine List.filter_congr fun v hv => ?_
  have hv' := List.mem_range.1 hv
  have hin : In12 (endsL g.es) := fun p hp => by have := ends_in hc hn p hp; omega
  rw [decide_eq_decide, isRoot_iff hin (by omega)]
  constructor
  · intro H y hy hcn
    exact Nat.le_of_not_lt fun hlt => H ⟨y, hlt, hcn.symm⟩
  · rintro H ⟨u, hu, hcn⟩
    have := H u (by omega) hcn.symm
    omega
def midF (s : Nat → Nat) (k x : Nat) : Nat := if x < 2 * k then s (oppH x) else s x
theorem mid_step (s : Nat → Nat) (k : Nat) : midF s (k + 1) = swapF (midF s k) (2 * k) (2 * k + 1) := by
  have e1 : oppH (2 * k) = 2 * k + 1 := by unfold oppH; omega
  have e2 : oppH (2 * k + 1) = 2 * k := by unfold oppH; omega
  funext x
  unfold swapF midF
  by_cases h1 : x = 2 * k
  · subst h1
    rw [if_pos (by omega), if_pos rfl, if_neg (by omega), e1]
  · by_cases h2 : x = 2 * k + 1
    · subst h2
      rw [if_pos (by omega), if_neg (by omega), if_pos rfl, if_neg (by omega), e2]
    · rw [if_neg h1, if_neg h2]
      by_cases h3 : x < 2 * k
      · rw [if_pos h3, if_pos (by omega)]
      · rw [if_neg h3, if_neg (by omega)]
structure Emb (E n : Nat) (L : List (Int × Int)) (s : Nat → Nat) (g : Nat → Nat) : Prop where
  len : L.length = E
  perm : PermN (2 * E) s
  lt : ∀ x, x < 2 * E → g x < n
  ends : ∀ k, k < E → L[k]? = some (((g (2 * k) : Nat) : Int), ((g (2 * k + 1) : Nat) : Int))
  keep : ∀ x, x < 2 * E → g (s x) = g x
section
variable {E n : Nat} {L : List (Int × Int)} {s g : Nat → Nat}
theorem Emb.mid_perm (h : Emb E n L s g) : ∀ k, k ≤ E → PermN (2 * E) (midF s k)
  | 0, _ => by
    have e : midF s 0 = s := by funext x; unfold midF; rw [if_neg (by omega)]
    rw [e]; exact h.perm
  | k + 1, hk => by rw [mid_step]; exact swap_perm (h.mid_perm k (by omega)) (by omega) (by omega)
theorem Emb.within (h : Emb E n L s g) {k : Nat} (hk : k ≤ E) {x y : Nat} (hx : x < 2 * E) (hc : cycR (midF s k) x y) : Conn (L.take k) (g x) (g y) := by
  obtain ⟨i, rfl⟩ := hc
  induction i with
  | zero => exact .refl
  | succ i ih =>
    have hl := (h.mid_perm k hk).it_lt hx i
    show Conn (L.take k) (g x) (g (midF s k (it (midF s k) i x)))
    generalize it (midF s k) i x = z at *
    unfold midF
    by_cases hz : z < 2 * k
    · rw [if_pos hz]
      have ho : oppH z < 2 * E := by unfold oppH; omega
      rw [h.keep _ ho]
      have he := h.ends (z / 2) (by omega)
      have hm : (((g (2 * (z / 2)) : Nat) : Int), ((g (2 * (z / 2) + 1) : Nat) : Int)) ∈ L.take k := by
        refine List.mem_of_getElem? (i := z / 2) ?_
        rw [List.getElem?_take, if_pos (by omega), he]
      have hz2 : z = 2 * (z / 2) ∨ z = 2 * (z / 2) + 1 := by omega
      rcases hz2 with e | e
      · have e3 : oppH z = 2 * (z / 2) + 1 := by unfold oppH; omega
        rw [e3]
        generalize 2 * (z / 2) = u at *
        subst e
        exact ih.step (.inl hm)
      · have e3 : oppH z = 2 * (z / 2) := by unfold oppH; omega
        rw [e3]
        generalize 2 * (z / 2) = u at *
        subst e
        exact ih.step (.inr hm)
    · rw [if_neg hz, h.keep _ hl]
      exact ih
theorem Emb.bound (h : Emb E n L s g) (h0 : ncls (2 * E) (cycR s) = n) : ∀ k, k ≤ E → ncls (2 * E) (cycR (midF s k)) + n ≤ k + 2 * ncls n (Conn (L.take k)) ∧ (ncls (2 * E) (cycR (midF s k)) + n + k) % 2 = 0
  | 0, _ => by
    have e : midF s 0 = s := by funext x; unfold midF; rw [if_neg (by omega)]
    have e2 : ncls n (Conn (L.take 0)) = n := by
      have := ncls_onto (N := n) (n := n) (fun x => x) (fun x hx => hx) (fun v hv => ⟨v, hv, rfl⟩)
      rw [← ncls_congr (R := Conn (L.take 0)) (S := fun x y => x = y) fun x y _ _ => ?_] at this
      · exact this
      · constructor
        · intro hc
          cases hc with
          | refl => rfl
          | step _ hs => simp at hs
        · rintro rfl; exact .refl
    rw [e, h0, e2]
    omega
  | k + 1, hk => by
    obtain ⟨i1, i2⟩ := h.bound h0 k (by omega)
    have ha : 2 * k < 2 * E := by omega
    have hb : 2 * k + 1 < 2 * E := by omega
    have htk : L.take (k + 1) = L.take k ++ [(((g (2 * k) : Nat) : Int), ((g (2 * k + 1) : Nat) : Int))] := by
      have he := h.ends k (by omega)
      obtain ⟨q1, q2⟩ := List.getElem?_eq_some_iff.1 he
      rw [List.take_succ_eq_append_getElem q1, q2]
    have hsw := swap_count (h.mid_perm k (by omega)) ha hb (by omega)
    rw [← mid_step] at hsw
    have hga := h.lt _ ha
    have hgb := h.lt _ hb
    by_cases hc : Conn (L.take k) (g (2 * k)) (g (2 * k + 1))
    · have e : ncls n (Conn (L.take (k + 1))) = ncls n (Conn (L.take k)) := ncls_congr fun x y _ _ => by
        rw [htk, conn_snoc]
        constructor
        · rintro (q | ⟨q1, q2⟩)
          · exact q
          · rcases q1 with q1 | q1 <;> rcases q2 with q2 | q2
            · exact q1.symm.trans q2
            · exact q1.symm.trans (hc.trans q2)
            · exact q1.symm.trans (hc.symm.trans q2)
            · exact q1.symm.trans q2
        · exact .inl
      rw [e]
      rcases hsw with ⟨_, q⟩ | ⟨_, q⟩ <;> omega
    · have e := ncls_join (conn_eqv n (L.take k)) hga hgb hc (S := Conn (L.take (k + 1))) fun x y _ _ => by rw [htk, conn_snoc]
      rcases hsw with ⟨q0, q⟩ | ⟨_, q⟩
      · exact absurd (h.within (by omega) ha q0) hc
      · omega
end
end Go.Proofs.YtfkegnhpihoncaaGreat
set_option linter.all false
namespace Go.Proofs.YtfkegnhpihoncaaGreat
open Go.Sp
set_option linter.unusedSimpArgs false
set_option linter.unusedVariables false
set_option maxHeartbeats 4000000
set_option maxRecDepth 100000
theorem Min_ok (l : List Int) (hne : l ≠ []) (hl : l.length < 2 ^ 40) : ACall Tryz.prog 105 [tints l] (tint (l.getD (leastN l) 0)) := by
  have hp : 0 < l.length := List.length_pos_iff.2 hne
  have e0 := List.getElem?_eq_getElem hp
  have r0 := iRows_get e0
  have d0 : l.getD 0 0 = l[0] := by rw [List.getD_eq_getElem?_getD, e0]; rfl
  generalize l[0] = x0 at *
  refine ACall.of_body Tryz.func105 rfl (by kernel_rfl) ?_
  simp only [entry, Tryz.ntmps105, tints]
  refine zU ?_
  refine zR (zc @iRows_len (zc @r0 (zc @Int.toNat_zero trivial))) trivial trivial ?_
  have hx0 : x0 = l.getD (leastGo l 0) 0 := d0.symm
  rw [hx0]
  refine AWp.loopS (α:=Nat) 25 (fun i=>[(0,.c (.slice (iRows l) .none)),(3,.c (.int .i64 (l.getD (leastGo l i) 0))),(4,.c (.int .i64 ((i : Int) + 1)))]) (fun i=>[]) (fun i=>i < l.length) (fun i=>l.length - i) (0) (hk:=Weak.headL 0 25 [0, 3, 4] zW) (h0:=?_) (round:=fun i hI=>?_)
  · exact hp
  · by_cases hlt : i + 1 < l.length
    · have hltI : (i : Int) + 1 < l.length := by omega
      have e1 := List.getElem?_eq_getElem hlt
      have r1 := iRows_get e1
      have d1 : l.getD (i + 1) 0 = l[i + 1] := by rw [List.getD_eq_getElem?_getD, e1]; rfl
      have hnx : l.getD (leastGo l (i + 1)) 0 = min (l.getD (leastGo l i) 0) (l.getD (i + 1) 0) := by
        simp only [leastGo]; split <;> omega
      rw [d1] at hnx
      have ht : ((i : Int) + 1).toNat = i + 1 := by omega
      generalize l[i + 1] = y at *
      generalize l.getD (leastGo l i) 0 = m at *
      refine zR (zc @hltI (zc @iRows_len (zc @r1 (zc @ht trivial)))) trivial trivial ?_
      refine ⟨i + 1,Weak.headF 0 25 [0, 3, 4] (zc @hnx trivial) zW,?_,?_⟩
      · omega
      · omega
    · have ei : leastN l = leastGo l i := by unfold leastN; congr 1; omega
      have hnl : ¬ ((i : Int) + 1 < l.length) := by omega
      rw [ei]
      refine zR (zc @hnl (zc @iRows_len trivial)) trivial trivial ?_
      simp [Rets, aret, Blk.cells, ty, Tryz.results105, ares, toT1, toT, borrow, borrow0, capCell, toTree0, tint]
theorem Grow_ok (H : List Blk) (n : Nat) (h0 : 0 < n) (hn : n < 2 ^ 30) : ACallH Tryz.prog 142 H [.c .nils, .c (.int .i64 n)] (H ++ [.box (List.replicate n (.int .i64 0))]) (.c (.ref H.length 1 0 0 n)) := by
  have h0I : (0 : Int) < n := by omega
  have h1I : ¬ ((n : Int) < 0) := by omega
  refine ACallH.of_body Tryz.func142 rfl (by kernel_rfl) ?_
  simp only [entry, Tryz.ntmps142, List.length_cons, List.length_nil, Nat.reduceAdd, Nat.reduceSub, List.replicate_succ, List.replicate_zero, List.cons_append, List.nil_append]
  repeat' (first|((with_reducible refine AWp.seq (AWp.of_reg (id:=3) (AReg.pre 2 (fun K hK=>?_))));simp only [List.take_succ_cons,List.take_zero])|((with_reducible refine AWp.of_reg (id:=3) (AReg.pre 2 (fun K hK=>?_)));simp only [List.take_succ_cons,List.take_zero])|((first|(refine zT ?_;intro K' hK')|(refine zG ?_ ?_<;>(try refine zH ?_)<;>intro hguard<;>(try exact zX)<;>try intro K' hK'))<;>((try simp +contextual only [go_sem, h1I, h0I]);(repeat' first|(with_reducible refine hK' _ _ ?_;clear hK' K')|exact zY|with_reducible refine And.intro ?_ ?_|(with_reducible intro hpath;try exact zP)|(refine hK' _ _ ?_;clear hK' K')|fail);try refine zS ?_))|(refine zE ?_;refine hK _ _ ?_;clear hK K)|(refine zN ?_;try refine zS ?_)|refine zA ?_|(refine zB ?_;intro K hK)|(refine zC ?_ ?_<;>(try refine zH ?_)<;>intro hcond<;>try exact zX)|fail)
  simp only [List.drop_succ_cons, List.drop_zero]
  refine AReg.step (rv := .c (.int .i64 0)) (H' := H) rfl rfl (step_cap_nil (e := 3) _ _ rfl (by simp only [ty]) rfl) ?_
  refine AReg.rest (fun K hK => ?_)
  have e0 : (n : Int) - (0 - ((0 : Nat) : Int)) = n := by omega
  repeat' (first|((with_reducible refine AWp.seq (AWp.of_reg (id:=5) (AReg.pre 2 (fun K hK=>?_))));simp only [List.take_succ_cons,List.take_zero])|((with_reducible refine AWp.of_reg (id:=5) (AReg.pre 2 (fun K hK=>?_)));simp only [List.take_succ_cons,List.take_zero])|((first|(refine zT ?_;intro K' hK')|(refine zG ?_ ?_<;>(try refine zH ?_)<;>intro hguard<;>(try exact zX)<;>try intro K' hK'))<;>((try simp +contextual only [go_sem, h1I, h0I, e0]);(repeat' first|(with_reducible refine hK' _ _ ?_;clear hK' K')|exact zY|with_reducible refine And.intro ?_ ?_|(with_reducible intro hpath;try exact zP)|(refine hK' _ _ ?_;clear hK' K')|fail);try refine zS ?_))|(refine zE ?_;refine hK _ _ ?_;clear hK K)|(refine zN ?_;try refine zS ?_)|refine zA ?_|(refine zB ?_;intro K hK)|(refine zC ?_ ?_<;>(try refine zH ?_)<;>intro hcond<;>try exact zX)|fail)
  simp only [List.drop_succ_cons, List.drop_zero]
  refine AReg.step (rv := .c (.int .i64 0)) (H' := H) rfl rfl (step_cap_nil (e := 3) _ _ rfl (by simp only [ty]) rfl) ?_
  refine AReg.step (rv := .c .nils) (H' := H) rfl rfl (step_part_nil (e := 3) _ _ _ rfl (by simp only [ty]) (by simp only [ty]) rfl rfl) ?_
  refine AReg.pre 1 (fun K hK => ?_)
  simp only [List.take_succ_cons, List.take_zero]
  repeat' (first|((first|(refine zT ?_;intro K' hK')|(refine zG ?_ ?_<;>(try refine zH ?_)<;>intro hguard<;>(try exact zX)<;>try intro K' hK'))<;>((try simp +contextual only [go_sem]);(repeat' first|(with_reducible refine hK' _ _ ?_;clear hK' K')|exact zY|with_reducible refine And.intro ?_ ?_|(with_reducible intro hpath;try exact zP)|(refine hK' _ _ ?_;clear hK' K')|fail);try refine zS ?_))|(refine zE ?_;refine hK _ _ ?_;clear hK K)|(refine zN ?_;try refine zS ?_)|fail)
  simp only [List.drop_succ_cons, List.drop_zero]
  refine AReg.step (rv := .c (.ref H.length 1 0 n n)) (H' := H ++ [.box (List.replicate n (.int .i64 0))]) rfl rfl (step_append_made (e := 3) (by' := 8) (k0 := .i64) _ _ _ _ rfl (by simp only [ty]) (by simp only [ty]) (by simp only [ty]) (by simp only [ty]) (by simp only [ty]) rfl rfl h0 (by omega) (by omega)) ?_
  refine AReg.pre 2 (fun K hK => ?_)
  simp only [List.take_succ_cons, List.take_zero]
  repeat' (first|((first|(refine zT ?_;intro K' hK')|(refine zG ?_ ?_<;>(try refine zH ?_)<;>intro hguard<;>(try exact zX)<;>try intro K' hK'))<;>((try simp +contextual only [go_sem]);(repeat' first|(with_reducible refine hK' _ _ ?_;clear hK' K')|exact zY|with_reducible refine And.intro ?_ ?_|(with_reducible intro hpath;try exact zP)|(refine hK' _ _ ?_;clear hK' K')|fail);try refine zS ?_))|(refine zE ?_;refine hK _ _ ?_;clear hK K)|(refine zN ?_;try refine zS ?_)|fail)
  simp only [List.drop_succ_cons, List.drop_zero]
  refine AReg.step (rv := .c (.ref H.length 1 0 0 n)) (H' := H ++ [.box (List.replicate n (.int .i64 0))]) rfl rfl (step_slice_ref (e := 3) (l := 0) (h := 0) _ _ _ _ rfl (by simp only [ty]) (by simp only [ty]) rfl rfl rfl (Nat.le_refl _) (Nat.zero_le _) (Nat.le_refl _) (.inl rfl)) ?_
  refine AReg.rest (fun K hK => ?_)
  repeat' (first|((first|(refine zT ?_;intro K' hK')|(refine zG ?_ ?_<;>(try refine zH ?_)<;>intro hguard<;>(try exact zX)<;>try intro K' hK'))<;>((try simp +contextual only [go_sem]);(repeat' first|(with_reducible refine hK' _ _ ?_;clear hK' K')|exact zY|with_reducible refine And.intro ?_ ?_|(with_reducible intro hpath;try exact zP)|(refine hK' _ _ ?_;clear hK' K')|fail);try refine zS ?_))|(refine zE ?_;refine hK _ _ ?_;clear hK K)|(refine zN ?_;try refine zS ?_)|refine zA ?_|(refine zB ?_;intro K hK)|(refine zC ?_ ?_<;>(try refine zH ?_)<;>intro hcond<;>try exact zX)|fail)
  simp [RetsH, aretH, ares, noTup, Tryz.results142]
end Go.Proofs.YtfkegnhpihoncaaGreat
set_option linter.all false
namespace Go.Proofs.YtfkegnhpihoncaaGreat
open Go.Sp
set_option linter.unusedSimpArgs false
set_option linter.unusedVariables false
set_option maxHeartbeats 4000000
set_option maxRecDepth 100000
theorem setMany_mid (pre mid post new : List ACell) (h : new.length = mid.length) : setMany (pre ++ mid ++ post) pre.length new = pre ++ new ++ post := by
  apply List.ext_getElem?
  intro i
  rw [setMany_get _ _ _ _ (by simp; omega)]
  by_cases h1 : i < pre.length
  · rw [if_neg (by omega), List.append_assoc, List.append_assoc, List.getElem?_append_left h1, List.getElem?_append_left h1]
  · by_cases h2 : i < pre.length + new.length
    · rw [if_pos ⟨by omega, h2⟩, List.append_assoc, List.getElem?_append_right (by omega), List.getElem?_append_left (by omega)]
    · rw [if_neg (by omega), List.getElem?_append_right (by simp; omega), List.getElem?_append_right (l₁ := pre ++ new) (by simp; omega)]
      simp [h]
theorem flat_iRows (l : List Int) : flatRows (iRows l) = iC l := by
  unfold flatRows iRows iC
  induction l with
  | nil => rfl
  | cons x l ih => simp only [List.map_cons, List.flatten_cons, List.map_append, ih]; rfl
theorem iC_app (a b : List Int) : iC (a ++ b) = iC a ++ iC b := by simp [iC]
theorem iC_rep (n : Nat) (x : Int) : iC (List.replicate n x) = List.replicate n (.int .i64 x) := by simp [iC]
theorem iC_put (A l : List Int) (m : Nat) : setMany (iC (A ++ List.replicate (l.length + m) 0)) A.length (iC l) = iC (A ++ l ++ List.replicate m 0) := by
  have e : List.replicate (l.length + m) (0 : Int) = List.replicate l.length 0 ++ List.replicate m 0 := List.replicate_append_replicate.symm
  rw [e, ← List.append_assoc, iC_app, iC_app, iC_app, iC_app]
  have := setMany_mid (iC A) (iC (List.replicate l.length 0)) (iC (List.replicate m 0)) (iC l) (by simp [iC_len])
  rwa [iC_len] at this
def catT (ls : List (List Int)) (i : Nat) : List Int := (ls.take i).flatten
theorem catT_all (ls : List (List Int)) : catT ls ls.length = ls.flatten := by unfold catT; rw [List.take_length]
theorem Concat_ok (ls : List (List Int)) (h0 : 0 < ls.flatten.length) (hn : ls.flatten.length < 2 ^ 30) (hl : ls.length < 2 ^ 20) : ACall Tryz.prog 106 [tlists ls] (tints ls.flatten) := by
  have htake : ∀ i, i < ls.length → catT ls (i + 1) = catT ls i ++ ls.getD i [] := fun i hi => by
    unfold catT; rw [List.take_succ_eq_append_getElem hi, List.flatten_append, List.getD_eq_getElem?_getD, List.getElem?_eq_getElem hi]; simp
  have hle : ∀ i : Nat, (catT ls i).length ≤ ls.flatten.length := fun i => by
    unfold catT
    have := congrArg List.flatten (List.take_append_drop i ls)
    rw [List.flatten_append] at this
    have := congrArg List.length this
    rw [List.length_append] at this; omega
  refine ACall.of_body Tryz.func106 rfl (by kernel_rfl) ?_
  simp only [entry, Tryz.ntmps106, tlists]
  refine zU ?_
  refine zR (zc @llRows_len trivial) trivial trivial ?_
  refine AWp.loopS (α:=Nat) 36 (fun i=>[(0,.c (.slice (llRows ls) .none)),(3,.c (.int .i64 ((catT ls i).length : Int))),(9,.c (.slice (llRows ls) .none)),(10,.c (.int .i64 (ls.length : Int))),(11,.c (.int .i64 (i : Int)))]) (fun i=>[]) (fun i=>i ≤ ls.length) (fun i=>ls.length - i) (0) (hk:=Weak.headL 0 36 [0, 3, 9, 10, 11] (zV @iC_in)) (h0:=?_) (round:=fun i hI=>?_)
  · exact Nat.zero_le _
  · have hi : i ≤ ls.length := hI
    clear hI
    by_cases hlt : i < ls.length
    · have hltI : (i : Int) < ls.length := by omega
      have e0 := List.getElem?_eq_getElem hlt
      have e1 := llRows_get e0
      have ht := htake i hlt
      have hl1 := hle (i + 1)
      rw [List.getD_eq_getElem?_getD, e0, Option.getD_some] at ht
      rw [ht, List.length_append] at hl1
      have hc : ((catT ls i).length : Int) + (ls[i].length : Int) = ((catT ls (i + 1)).length : Int) := by rw [ht, List.length_append]; omega
      have hge : ¬ (((catT ls (i + 1)).length : Int) < 0) := by omega
      generalize ls[i] = l at *
      generalize catT ls i = A at *
      refine zR (zc @hltI (zc @llRows_len (zc @iRows_len (zc @e1 (zc @hc (zc @hge trivial)))))) trivial trivial ?_
      refine ⟨i + 1,Weak.headN 0 36 [0, 3, 9, 10, 11] (zV @iC_in),?_,?_⟩
      · exact hlt
      · omega
    · have ei : i = ls.length := by omega
      subst ei
      have hnl : ¬ ((ls.length : Int) < ls.length) := by omega
      rw [catT_all]
      have hG := Grow_ok [] ls.flatten.length h0 hn
      repeat' (first|((first|(refine zT ?_;intro K' hK')|(refine zG ?_ ?_<;>(try refine zH ?_)<;>intro hguard<;>(try exact zX)<;>try intro K' hK'))<;>((try simp +contextual only [go_sem, hnl, llRows_len]);(repeat' first|(with_reducible refine hK' _ _ ?_;clear hK' K')|((with_reducible first|refine ⟨_,_,hG,?_⟩|refine ⟨_,hG,?_⟩);try simp +contextual only [go_sem, hnl, llRows_len])|exact zY|with_reducible refine And.intro ?_ ?_|(with_reducible intro hpath;try exact zP)|(refine hK' _ _ ?_;clear hK' K')|fail);try refine zS ?_))|(refine zE ?_;refine hK _ _ ?_;clear hK K)|(refine zN ?_;try refine zS ?_)|refine zA ?_|(refine zB ?_;intro K hK)|(refine zC ?_ ?_<;>(try refine zH ?_)<;>intro hcond<;>try exact zX)|fail)
      try simp only [List.nil_append, List.length_nil]
      rw [← iC_rep]
      refine AWp.loopS (α:=Nat) 36 (fun i=>[(6,.c (.ref 0 1 0 (catT ls i).length ls.flatten.length)),(25,.c (.slice (llRows ls) .none)),(26,.c (.int .i64 (ls.length : Int))),(27,.c (.int .i64 (i : Int)))]) (fun i=>[.box (iC (catT ls i ++ List.replicate (ls.flatten.length - (catT ls i).length) 0))]) (fun i=>i ≤ ls.length) (fun i=>ls.length - i) (0) (hk:=Weak.headL 1 36 [6, 25, 26, 27] (zV @iC_in)) (h0:=?_) (round:=fun i hI=>?_)
      · exact Nat.zero_le _
      · have hi : i ≤ ls.length := hI
        clear hI
        by_cases hlt : i < ls.length
        · have hltI : (i : Int) < ls.length := by omega
          have e0 := List.getElem?_eq_getElem hlt
          have e1 := llRows_get e0
          have ht := htake i hlt
          have hl1 := hle (i + 1)
          rw [List.getD_eq_getElem?_getD, e0, Option.getD_some] at ht
          rw [ht, List.length_append] at hl1
          have hm : ls.flatten.length - (catT ls i).length = ls[i].length + (ls.flatten.length - (catT ls (i + 1)).length) := by rw [ht, List.length_append]; omega
          have hp := iC_put (catT ls i) ls[i] (ls.flatten.length - (catT ls (i + 1)).length)
          rw [← hm, ← ht] at hp
          have hlen : (catT ls (i + 1)).length = (catT ls i).length + ls[i].length := by rw [ht, List.length_append]
          generalize ls[i] = l at *
          generalize hB : catT ls (i + 1) = B at *
          generalize catT ls i = A at *
          generalize ls.flatten.length = n at *
          repeat' (first|((with_reducible refine AWp.seq (AWp.of_reg (id:=13) (AReg.pre 2 (fun K hK=>?_))));simp only [List.take_succ_cons,List.take_zero])|((with_reducible refine AWp.of_reg (id:=13) (AReg.pre 2 (fun K hK=>?_)));simp only [List.take_succ_cons,List.take_zero])|((first|(refine zT ?_;intro K' hK')|(refine zG ?_ ?_<;>(try refine zH ?_)<;>intro hguard<;>(try exact zX)<;>try intro K' hK'))<;>((try simp +contextual only [go_sem, hltI, llRows_len, iRows_len, e1, Int.toNat_natCast]);(repeat' first|(with_reducible refine hK' _ _ ?_;clear hK' K')|exact zY|with_reducible refine And.intro ?_ ?_|(with_reducible intro hpath;try exact zP)|(refine hK' _ _ ?_;clear hK' K')|fail);try refine zS ?_))|(refine zE ?_;refine hK _ _ ?_;clear hK K)|(refine zN ?_;try refine zS ?_)|refine zA ?_|(refine zB ?_;intro K hK)|(refine zC ?_ ?_<;>(try refine zH ?_)<;>intro hcond<;>try exact zX)|fail)
          simp only [List.drop_succ_cons, List.drop_zero]
          refine AReg.step rfl rfl (step_append_ref (e := 3) (e2 := 3) (rows := iRows l) _ _ _ _ rfl (by simp only [ty]) (by simp only [ty]) (by simp only [ty]) rfl rfl (fun r hr => iRows_k' hr) rfl (by rw [iRows_len]; omega) (by rw [iRows_len, iC_len, List.length_append, List.length_replicate]; omega)) ?_
          simp only [flat_iRows, Nat.zero_add, hp, iRows_len, ← hlen, List.set_cons_zero]
          refine AReg.rest (fun K hK => ?_)
          repeat' (first|((first|(refine zT ?_;intro K' hK')|(refine zG ?_ ?_<;>(try refine zH ?_)<;>intro hguard<;>(try exact zX)<;>try intro K' hK'))<;>((try simp +contextual only [go_sem, hltI]);(repeat' first|(with_reducible refine hK' _ _ ?_;clear hK' K')|exact zY|with_reducible refine And.intro ?_ ?_|(with_reducible intro hpath;try exact zP)|(refine hK' _ _ ?_;clear hK' K')|fail);try refine zS ?_))|(refine zE ?_;refine hK _ _ ?_;clear hK K)|(refine zN ?_;try refine zS ?_)|refine zA ?_|(refine zB ?_;intro K hK)|(refine zC ?_ ?_<;>(try refine zH ?_)<;>intro hcond<;>try exact zX)|fail)
          refine ⟨i + 1,Weak.headF 1 36 [6, 25, 26, 27] (zc @hB trivial) (zV @iC_in),?_,?_⟩
          · exact hlt
          · omega
        · have ei : i = ls.length := by omega
          subst ei
          have hnl : ¬ ((ls.length : Int) < ls.length) := by omega
          have hz : iC (catT ls ls.length ++ List.replicate (ls.flatten.length - (catT ls ls.length).length) 0) = iC ls.flatten := by rw [catT_all, Nat.sub_self, List.replicate_zero, List.append_nil]
          rw [hz, catT_all]
          repeat' ((fail_if_success (with_reducible refine AWp.atSeq 15 ?_));(fail_if_success (with_reducible refine AWp.atLast 15 ?_));first|((first|(refine zT ?_;intro K' hK')|(refine zG ?_ ?_<;>(try refine zH ?_)<;>intro hguard<;>(try exact zX)<;>try intro K' hK'))<;>((try simp +contextual only [go_sem, hnl]);(repeat' first|(with_reducible refine hK' _ _ ?_;clear hK' K')|exact zY|with_reducible refine And.intro ?_ ?_|(with_reducible intro hpath;try exact zP)|(refine hK' _ _ ?_;clear hK' K')|fail);try refine zS ?_))|(refine zE ?_;refine hK _ _ ?_;clear hK K)|(refine zN ?_;try refine zS ?_)|refine zA ?_|(refine zB ?_;intro K hK)|(refine zC ?_ ?_<;>(try refine zH ?_)<;>intro hcond<;>try exact zX)|fail)
          refine AWp.freezeR 6 0 1 ls.flatten.length ls.flatten.length rfl rfl (iC_trees _) (iRows ls.flatten) (by rw [iRows_len]) (Nat.le_refl _) (fun r hr => iRows_k' hr) (iRows_pre _) ?_
          simp only [List.set_cons_succ, List.set_cons_zero]
          refine zR trivial trivial trivial ?_
          simp [Rets, aret, Blk.cells, ty, Tryz.results106, ares, toT1, toT, borrow, borrow0, capCell, toTree0, tints]
end Go.Proofs.YtfkegnhpihoncaaGreat
