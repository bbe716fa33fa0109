/- A part of the proof: contracts of functions of the program, and plain lemmas. -/
import Derived.Test.YtfkegnhpihoncaaGreatPart13
import Derived.Test.YtfkegnhpihoncaaGreatPart14
import Derived.Test.YtfkegnhpihoncaaGreatLayerC
import Derived.Test.YtfkegnhpihoncaaGreatPart06
set_option linter.all false
namespace Go.Proofs.YtfkegnhpihoncaaGreat
open Go.Sp
set_option linter.unusedSimpArgs false
set_option linter.unusedVariables false
set_option maxHeartbeats 4000000
set_option maxRecDepth 100000
theorem idx_at {l : List Int} (hn : l.Nodup) {i : Nat} {x : Int} (h : l[i]? = some x) : l.idxOf x = i := by
  obtain ⟨hi, e⟩ := List.getElem?_eq_some_iff.1 h
  obtain ⟨q1, q2⟩ := getD_idx (List.mem_of_getElem? h)
  have := (List.getElem?_eq_some_iff.1 q2).2
  exact nodup_at hn q1 hi (this.trans e.symm)
def gB (L : List (Int × Int)) (ar : List (List Int)) (v i h : Nat) : Int :=
  if atL L h < v ∨ (atL L h = v ∧ (ar.getD v []).idxOf (h : Int) < i) then nextR L ar h else 0
section
variable {r : R}
theorem gB_step (hr : ROk r) {v i : Nat} {l : List Int} {x : Int} (hl : r.ar[v]? = some l) (hx : l[i]? = some x) :
    (0 ≤ x ∧ x < 2 * ((endsL r.es).length : Int)) ∧ (∃ y, l[(i + 1) % l.length]? = some y ∧ (tabI (2 * (endsL r.es).length) (gB (endsL r.es) r.ar v i)).set x.toNat y = tabI (2 * (endsL r.es).length) (gB (endsL r.es) r.ar v (i + 1))) := by
  have hok := hr.l v l hl
  have hi := (List.getElem?_eq_some_iff.1 hx).1
  have hm := ownL_mem.1 (hok.sub x (List.mem_of_getElem? hx))
  have hm2 : x < 2 * ((endsL r.es).length : Int) := by have := hm.2.1; omega
  have hgl : r.ar.getD v [] = l := by rw [List.getD_eq_getElem?_getD, hl]; rfl
  have hidx := idx_at hok.nd hx
  refine ⟨⟨hm.1, hm2⟩, ?_⟩
  have hml : (i + 1) % l.length < l.length := Nat.mod_lt _ (by omega)
  have hnx : nextR (endsL r.es) r.ar x.toNat = l[(i + 1) % l.length] := by
    unfold nextR nextI
    rw [hm.2.2, Int.toNat_natCast, hgl, show ((x.toNat : Nat) : Int) = x by omega, hidx, List.getD_eq_getElem?_getD, List.getElem?_eq_getElem hml]; rfl
  refine ⟨_, List.getElem?_eq_getElem hml, ?_⟩
  rw [tabI_set _ _ (by omega)]
  refine tabI_congr fun j hj => ?_
  unfold gB
  by_cases e : j = x.toNat
  · subst e
    rw [if_pos rfl, if_pos (.inr ⟨hm.2.2, by rw [hgl, show ((x.toNat : Nat) : Int) = x by omega, hidx]; omega⟩), hnx]
  · rw [if_neg e]
    have hne : l.idxOf (j : Int) ≠ i := fun h => by
      have h1 : l.idxOf (j : Int) < l.length := by omega
      have h2 := List.getElem_idxOf h1
      have h3 := (List.getElem?_eq_some_iff.1 hx).2
      have h4 : l[l.idxOf (j : Int)] = l[i] := by congr 1
      rw [h2, h3] at h4
      omega
    rw [hgl]
    by_cases h1 : atL (endsL r.es) j < v ∨ (atL (endsL r.es) j = v ∧ l.idxOf (j : Int) < i)
    · rw [if_pos h1, if_pos (by omega)]
    · rw [if_neg h1, if_neg (by omega)]
theorem gB_row (hr : ROk r) {v : Nat} {l : List Int} (hl : r.ar[v]? = some l) : tabI (2 * (endsL r.es).length) (gB (endsL r.es) r.ar v l.length) = tabI (2 * (endsL r.es).length) (gB (endsL r.es) r.ar (v + 1) 0) := by
  have hok := hr.l v l hl
  have hgl : r.ar.getD v [] = l := by rw [List.getD_eq_getElem?_getD, hl]; rfl
  refine tabI_congr fun j hj => ?_
  unfold gB
  rw [hgl]
  by_cases h : atL (endsL r.es) j = v
  · have hm : (j : Int) ∈ l := hok.sup _ (ownL_mem.2 ⟨by omega, by omega, by simpa using h⟩)
    rw [if_pos (.inr ⟨h, (getD_idx hm).1⟩), if_pos (.inl (by omega))]
  · by_cases h1 : atL (endsL r.es) j < v
    · rw [if_pos (.inl h1), if_pos (.inl (by omega))]
    · rw [if_neg (by omega), if_neg (by omega)]
theorem gB_zero (L : List (Int × Int)) (ar : List (List Int)) (hat : ∀ h, h < 2 * L.length → 0 ≤ atL L h) : List.replicate (2 * L.length) (0 : Int) = tabI (2 * L.length) (gB L ar 0 0) := by
  rw [tabI_rep]
  refine tabI_congr fun j hj => ?_
  have := hat j hj
  unfold gB
  rw [if_neg (by omega)]
theorem gB_all (hr : ROk r) : tabI (2 * (endsL r.es).length) (gB (endsL r.es) r.ar r.ar.length 0) = tabI (2 * (endsL r.es).length) (nextR (endsL r.es) r.ar) := by
  refine tabI_congr fun j hj => ?_
  have := atL_range hr.c hj
  have := hr.len
  unfold gB
  rw [if_pos (.inl (by omega))]
end
theorem tmodn (i n : Nat) : Int.tmod ((i : Int) + 1) (n : Int) = (((i + 1) % n : Nat) : Int) := rfl
theorem behind_ok (r : R) (hs : RSm r) (hr : ROk r) : ACall Tryz.prog 72 [tR r, tint (endsL r.es).length] (tints (tabI (2 * (endsL r.es).length) (nextR (endsL r.es) r.ar))) := by
  have hlen : (endsL r.es).length ≤ 2000 := ends_len (g := r.g) hs.es hr.c
  have hz := gB_zero (endsL r.es) r.ar fun h hh => (atL_range hr.c hh).1
  have hst := fun v i l x => gB_step hr (v := v) (i := i) (l := l) (x := x)
  have hrow := fun v l => gB_row hr (v := v) (l := l)
  have hall := gB_all hr
  have hA := hs.ar
  have hLl := hs.l
  clear hs hr
  obtain ⟨n, es, ar⟩ := r
  simp only at hlen hz hst hrow hall hA hLl ⊢
  generalize endsL es = L at *
  have h2 : ((2 : Int) * (L.length : Int)).toNat = 2 * L.length := by omega
  refine ACall.of_body Tryz.func72 rfl (by kernel_rfl) ?_
  simp only [entry, Tryz.ntmps72, tR, tint]
  refine zU ?_
  refine zR (zc @made_ints (zc @h2 (zc @llRows_len trivial))) trivial trivial ?_
  rw [hz]
  refine AWp.loopS (α:=Nat) 41 (fun v=>[(2,.c (.ptr 0 0)),(5,.c (.ref 1 1 0 (2 * L.length) (2 * L.length))),(14,.c (.slice (llRows ar) .none)),(15,.c (.int .i64 (ar.length : Int))),(16,.c (.int .i64 (v : Int)))]) (fun v=>[.box [.int .i64 n, .slice (eRows es) .none, .slice (llRows ar) .none], .box (iC (tabI (2 * L.length) (gB L ar v 0)))]) (fun v=>v ≤ ar.length) (fun v=>ar.length - v) (0) (hk:=Weak.headL 2 41 [2, 5, 14, 15, 16] (zV @iC_in)) (h0:=?_) (round:=fun v hI=>?_)
  · exact Nat.zero_le _
  · have hv : v ≤ ar.length := hI
    clear hI
    by_cases hlt : v < ar.length
    · have hltI : (v : Int) < ar.length := by omega
      have e0 := List.getElem?_eq_getElem hlt
      have e1 := llRows_get e0
      have hl := hLl _ (List.getElem_mem hlt)
      have hs2 := fun i x => hst v i _ x e0
      have hr2 := hrow v _ e0
      generalize ar[v] = l at *
      refine zR (zc @hltI (zc @e1 (zc @llRows_len (zc @iRows_len trivial)))) trivial trivial ?_
      refine AWp.loopS (α:=Nat) 41 (fun i=>[(2,.c (.ptr 0 0)),(5,.c (.ref 1 1 0 (2 * L.length) (2 * L.length))),(7,.c (.slice (iRows l) .none)),(14,.c (.slice (llRows ar) .none)),(15,.c (.int .i64 (ar.length : Int))),(16,.c (.int .i64 (v : Int))),(20,.c (.slice (iRows l) .none)),(21,.c (.int .i64 (l.length : Int))),(22,.c (.int .i64 (i : Int)))]) (fun i=>[.box [.int .i64 n, .slice (eRows es) .none, .slice (llRows ar) .none], .box (iC (tabI (2 * L.length) (gB L ar v i)))]) (fun i=>i ≤ l.length) (fun i=>l.length - i) (0) (hk:=Weak.headL 2 41 [2, 5, 7, 14, 15, 16, 20, 21, 22] (zV @iC_in)) (h0:=?_) (round:=fun i hI=>?_)
      · exact Nat.zero_le _
      · have hi : i ≤ l.length := hI
        clear hI
        by_cases hlt2 : i < l.length
        · have hlt2I : (i : Int) < l.length := by omega
          have f0 := List.getElem?_eq_getElem hlt2
          have f1 := iRows_get f0
          obtain ⟨⟨hx0, hx1⟩, y, hy, hset⟩ := hs2 i _ f0
          have f2 := iRows_get hy
          have hml : (i + 1) % l.length < l.length := Nat.mod_lt _ (by omega)
          have hmlI : (((i + 1) % l.length : Nat) : Int) < l.length := by omega
          have htl := tabI_len (2 * L.length) (gB L ar v i)
          generalize l[i] = x at *
          obtain ⟨x, rfl⟩ := Int.eq_ofNat_of_zero_le hx0
          rw [Int.toNat_natCast] at hset
          have htm := tmodn i l.length
          generalize hB : tabI (2 * L.length) (gB L ar v (i + 1)) = B2 at *
          generalize tabI (2 * L.length) (gB L ar v i) = B at *
          generalize (i + 1) % l.length = q at *
          refine zR (zc @hlt2I (zc @f1 (zc @f2 (zc @iRows_len (zc @htm (zc @hmlI (zc @hx1 (zc @iC_len (zc @htl (zc @iC_set (zc @hset trivial))))))))))) trivial trivial ?_
          refine ⟨i + 1,Weak.headF 2 41 [2, 5, 7, 14, 15, 16, 20, 21, 22] (zc @hB trivial) (zV @iC_in),?_,?_⟩
          · exact hlt2
          · omega
        · have ei : i = l.length := by omega
          subst ei
          have hnl : ¬ ((l.length : Int) < l.length) := by omega
          rw [hr2]
          refine zR (zc @hnl trivial) trivial trivial ?_
          refine ⟨v + 1,Weak.headN 2 41 [2, 5, 14, 15, 16] (zV @iC_in),?_,?_⟩
          · exact hlt
          · omega
    · have ev : v = ar.length := by omega
      subst ev
      have hnl : ¬ ((ar.length : Int) < ar.length) := by omega
      rw [hall]
      have htl := tabI_len (2 * L.length) (nextR L ar)
      generalize tabI (2 * L.length) (nextR L ar) = B at *
      repeat' ((fail_if_success (with_reducible refine AWp.atSeq 11 ?_));(fail_if_success (with_reducible refine AWp.atLast 11 ?_));first|((first|(refine zT ?_;intro K' hK')|(refine zG ?_ ?_<;>(try refine zH ?_)<;>intro hguard<;>(try exact zX)<;>try intro K' hK'))<;>((try simp +contextual only [go_sem, hnl]);(repeat' first|(with_reducible refine hK' _ _ ?_;clear hK' K')|exact zY|with_reducible refine And.intro ?_ ?_|(with_reducible intro hpath;try exact zP)|(refine hK' _ _ ?_;clear hK' K')|fail);try refine zS ?_))|(refine zE ?_;refine hK _ _ ?_;clear hK K)|(refine zN ?_;try refine zS ?_)|refine zA ?_|(refine zB ?_;intro K hK)|(refine zC ?_ ?_<;>(try refine zH ?_)<;>intro hcond<;>try exact zX)|fail)
      refine AWp.freezeR 5 1 1 (2 * L.length) (2 * L.length) rfl rfl (iC_trees _) (iRows B) (by rw [iRows_len, htl]) (Nat.le_refl _) (fun r hr => iRows_k' hr) (iRows_pre _) ?_
      simp only [List.set_cons_succ, List.set_cons_zero]
      refine zR trivial trivial trivial ?_
      simp [Rets, aret, Blk.cells, ty, Tryz.results72, ares, toT1, toT, borrow, borrow0, capCell, toTree0, tints]
end Go.Proofs.YtfkegnhpihoncaaGreat
set_option linter.all false
namespace Go.Proofs.YtfkegnhpihoncaaGreat
open Go.Sp
set_option linter.unusedSimpArgs false
set_option linter.unusedVariables false
theorem row_iter {l : List Int} (hn : l.Nodup) {s : Nat → Nat} (hs : ∀ x : Nat, (x : Int) ∈ l → ((s x : Nat) : Int) = nextI l (x : Int)) {x : Nat} (hx : (x : Int) ∈ l) : ∀ k, l[(l.idxOf (x : Int) + k) % l.length]? = some ((it s k x : Nat) : Int)
  | 0 => by
    obtain ⟨h1, h2⟩ := getD_idx hx
    rw [Nat.add_zero, Nat.mod_eq_of_lt h1, h2]; rfl
  | k + 1 => by
    have ih := row_iter hn hs hx k
    obtain ⟨h1, h2⟩ := getD_idx hx
    have hm := List.mem_of_getElem? ih
    have hnx := hs _ hm
    unfold nextI at hnx
    rw [idx_at hn ih] at hnx
    have hlt : ((l.idxOf (x : Int) + k) % l.length + 1) % l.length < l.length := Nat.mod_lt _ (by omega)
    have e : ((l.idxOf (x : Int) + k) % l.length + 1) % l.length = (l.idxOf (x : Int) + (k + 1)) % l.length := by rw [Nat.mod_add_mod]; rfl
    rw [e] at hnx hlt
    rw [List.getD_eq_getElem?_getD, List.getElem?_eq_getElem hlt, Option.getD_some] at hnx
    rw [List.getElem?_eq_getElem hlt]
    show _ = some (((s (it s k x)) : Nat) : Int)
    rw [hnx]
theorem row_cyc {l : List Int} (hn : l.Nodup) {s : Nat → Nat} (hs : ∀ x : Nat, (x : Int) ∈ l → ((s x : Nat) : Int) = nextI l (x : Int)) {x y : Nat} (hx : (x : Int) ∈ l) (hy : (y : Int) ∈ l) : cycR s x y := by
  obtain ⟨h1, h2⟩ := getD_idx hx
  obtain ⟨h3, h4⟩ := getD_idx hy
  refine ⟨l.idxOf (y : Int) + (l.length - l.idxOf (x : Int)), ?_⟩
  have h5 := row_iter hn hs hx (l.idxOf (y : Int) + (l.length - l.idxOf (x : Int)))
  rw [show l.idxOf (x : Int) + (l.idxOf (y : Int) + (l.length - l.idxOf (x : Int))) = l.idxOf (y : Int) + l.length by omega, Nat.add_mod_right, Nat.mod_eq_of_lt h3, h4] at h5
  have := Option.some.inj h5
  omega
theorem conn_nil_ncls (n : Nat) : ncls n (Conn []) = n := by
  have := ncls_onto (N := n) (n := n) (fun x => x) (fun x hx => hx) (fun v hv => ⟨v, hv, rfl⟩)
  rw [← ncls_congr (R := Conn []) (S := fun x y => x = y) fun x y _ _ => ?_] at this
  · exact this
  · constructor
    · intro hc
      cases hc with
      | refl => rfl
      | step _ hs => simp at hs
    · rintro rfl; exact .refl
open Classical in
theorem ncls_one {N : Nat} {R : Nat → Nat → Prop} (hR : Eqv N R) (h : ncls N R = 1) {x y : Nat} (hx : x < N) (hy : y < N) : R x y := by
  unfold ncls at h
  generalize hl : List.filter _ (List.range N) = l at h
  have hmem : ∀ h, h ∈ l ↔ h < N ∧ ∀ y, y < N → R h y → h ≤ y := fun h => by rw [← hl]; simp
  have lead : ∀ x, x < N → ∃ m, m < N ∧ R x m ∧ m ∈ l := fun x hx => by
    obtain ⟨m, m1, ⟨m2, m3⟩, m4⟩ := least_of (P := fun y => y < N ∧ R x y) ⟨hx, hR.refl x hx⟩
    exact ⟨m, m2, m3, (hmem m).2 ⟨m2, fun y hy hr => m4 y ⟨hy, hR.trans x m y hx m2 hy m3 hr⟩⟩⟩
  obtain ⟨a, a1, a2, a3⟩ := lead x hx
  obtain ⟨b, b1, b2, b3⟩ := lead y hy
  obtain ⟨c, rfl⟩ : ∃ c, l = [c] := List.length_eq_one_iff.1 h
  have e : a = b := by simp at a3 b3; rw [a3, b3]
  subst e
  exact hR.trans x a y hx a1 hy a2 (hR.symm y a hy a1 b2)
theorem cyc_congr {N : Nat} {f g : Nat → Nat} (hf : PermN N f) (h : ∀ x, x < N → f x = g x) {x y : Nat} (hx : x < N) : cycR f x y ↔ cycR g x y := by
  have key : ∀ i, it g i x = it f i x := fun i => by
    induction i with
    | zero => rfl
    | succ i ih =>
      show g (it g i x) = f (it f i x)
      rw [ih]; exact (h _ (hf.it_lt hx i)).symm
  constructor
  · rintro ⟨i, hi⟩; exact ⟨i, by rw [key]; exact hi⟩
  · rintro ⟨i, hi⟩; exact ⟨i, by rw [← key]; exact hi⟩
def sR (L : List (Int × Int)) (ar : List (List Int)) (x : Nat) : Nat := (nextR L ar x).toNat
def gR (L : List (Int × Int)) (x : Nat) : Nat := (atL L x).toNat
theorem emb_of {r : R} (hr : ROk r) : Emb (endsL r.es).length r.n.toNat (endsL r.es) (sR (endsL r.es) r.ar) (gR (endsL r.es)) := by
  refine ⟨rfl, ⟨fun x hx => ?_, fun x y hx hy e => ?_⟩, fun x hx => ?_, fun k hk => ?_, fun x hx => ?_⟩
  · have := hr.next hx; unfold sR; omega
  · have h1 := hr.next hx
    have h2 := hr.next hy
    unfold sR at e
    exact hr.next_inj hx hy (by omega)
  · have := atL_range hr.c hx; unfold gR; omega
  · have h1 := atL_range hr.c (show 2 * k < 2 * (endsL r.es).length by omega)
    have h2 := atL_range hr.c (show 2 * k + 1 < 2 * (endsL r.es).length by omega)
    have e := List.getElem?_eq_getElem hk
    have a1 : atL (endsL r.es) (2 * k) = (endsL r.es)[k].1 := by
      unfold atL; rw [if_pos (by omega), show 2 * k / 2 = k by omega, List.getD_eq_getElem?_getD, e]; rfl
    have a2 : atL (endsL r.es) (2 * k + 1) = (endsL r.es)[k].2 := by
      unfold atL; rw [if_neg (by omega), show (2 * k + 1) / 2 = k by omega, List.getD_eq_getElem?_getD, e]; rfl
    rw [e]
    congr 1
    refine Prod.ext ?_ ?_
    · show _ = (((atL (endsL r.es) (2 * k)).toNat : Nat) : Int); rw [← a1]; omega
    · show _ = (((atL (endsL r.es) (2 * k + 1)).toNat : Nat) : Int); rw [← a2]; omega
  · show (atL (endsL r.es) (sR (endsL r.es) r.ar x)).toNat = (atL (endsL r.es) x).toNat
    unfold sR
    rw [(hr.next hx).2.2]
theorem euler_of {r : R} (hr : ROk r) : (facesR r).length + r.n.toNat ≤ (endsL r.es).length + 2 ∧ ((facesR r).length + r.n.toNat + (endsL r.es).length) % 2 = 0 ∧ 1 ≤ (facesR r).length := by
  have h12 : 1 ≤ r.n ∧ r.n ≤ 12 := (checkG_zero.1 hr.c).1
  have hpc : partsN r.g.es r.n.toNat r.n.toNat = 1 := of_decide_eq_true hr.conn
  rw [parts_ncls hr.c (by show r.n = _; omega)] at hpc
  have hpc2 : ncls r.n.toNat (Conn (endsL r.es)) = 1 := hpc
  clear hpc
  by_cases hE : (endsL r.es).length = 0
  · have e : endsL r.es = [] := List.length_eq_zero_iff.1 hE
    have hf : facesR r = [[]] := by unfold facesR; rw [if_pos hE]
    rw [e, conn_nil_ncls] at hpc2
    rw [hf, e, hpc2]
    decide
  · have hem := emb_of hr
    have hf : facesR r = facesN (fR (endsL r.es) r.ar) (2 * (endsL r.es).length) (2 * (endsL r.es).length) := by unfold facesR; rw [if_neg hE]
    have hfl : (facesR r).length = ncls (2 * (endsL r.es).length) (cycR (midF (sR (endsL r.es) r.ar) (endsL r.es).length)) := by
      rw [hf, faces_ncls hr.perm]
      refine ncls_congr fun x y hx hy => cyc_congr hr.perm (fun z hz => ?_) hx
      unfold midF; rw [if_pos hz]; rfl
    have h0 : ncls (2 * (endsL r.es).length) (cycR (sR (endsL r.es) r.ar)) = r.n.toNat := by
      rw [ncls_congr (S := fun x y => gR (endsL r.es) x = gR (endsL r.es) y)]
      · refine ncls_onto _ hem.lt fun v hv => ?_
        have hc := ncls_one (conn_eqv _ _) hpc2 (hem.lt 0 (by omega)) hv
        cases hc with
        | refl => exact ⟨0, by omega, rfl⟩
        | @step b c _ hs =>
          have get : ∀ p, p ∈ endsL r.es → ∃ k, k < (endsL r.es).length ∧ p = (((gR (endsL r.es) (2 * k) : Nat) : Int), ((gR (endsL r.es) (2 * k + 1) : Nat) : Int)) := fun p hp => by
            obtain ⟨k, hk, e⟩ := List.mem_iff_getElem.1 hp
            refine ⟨k, hk, ?_⟩
            have := hem.ends k hk
            rw [List.getElem?_eq_getElem hk, e] at this
            exact Option.some.inj this
          rcases hs with hs | hs
          · obtain ⟨k, hk, e⟩ := get _ hs
            have := congrArg Prod.snd e
            simp only at this
            exact ⟨2 * k + 1, by omega, by omega⟩
          · obtain ⟨k, hk, e⟩ := get _ hs
            have := congrArg Prod.fst e
            simp only at this
            exact ⟨2 * k, by omega, by omega⟩
      · intro x y hx hy
        constructor
        · rintro ⟨i, rfl⟩
          clear hy
          induction i with
          | zero => rfl
          | succ i ih =>
            show _ = gR (endsL r.es) (sR (endsL r.es) r.ar (it (sR (endsL r.es) r.ar) i x))
            rw [hem.keep _ (hem.perm.it_lt hx i)]; exact ih
        · intro hg
          have ax := atL_range hr.c hx
          have ay := atL_range hr.c hy
          have hat : atL (endsL r.es) x = atL (endsL r.es) y := by unfold gR at hg; omega
          obtain ⟨l, q1, q2, q3, q4⟩ := hr.row hx
          refine row_cyc q3.nd (fun z hz => ?_) q4 (q3.sup _ (ownL_mem.2 ⟨by omega, by omega, by rw [Int.toNat_natCast]; exact hat.symm⟩))
          have hz2 := ownL_mem.1 (q3.sub _ hz)
          rw [Int.toNat_natCast] at hz2
          have hzl : z < 2 * (endsL r.es).length := by omega
          have hzn := hr.next hzl
          have : nextR (endsL r.es) r.ar z = nextI l (z : Int) := by unfold nextR; rw [hz2.2.2, q2]
          unfold sR
          rw [← this]; omega
    obtain ⟨b1, b2⟩ := hem.bound h0 (endsL r.es).length (Nat.le_refl _)
    rw [List.take_length, hpc2] at b1
    refine ⟨by omega, by omega, ?_⟩
    rw [hf]
    have hz : leadB (fR (endsL r.es) r.ar) (2 * (endsL r.es).length) 0 = true := leadB_iff.2 fun y _ => Nat.zero_le _
    unfold facesN
    rw [List.length_map]
    exact List.length_pos_of_mem (leadsL_mem.2 ⟨by omega, hz⟩)
end Go.Proofs.YtfkegnhpihoncaaGreat
set_option linter.all false
namespace Go.Proofs.YtfkegnhpihoncaaGreat
open Go.Sp
set_option linter.unusedSimpArgs false
set_option linter.unusedVariables false
set_option maxHeartbeats 4000000
set_option maxRecDepth 100000
def halfE (r : R) (h : Int) : Int := if ribE r ≠ 0 then ribE r else if h < 0 ∨ 2 * ((endsL r.es).length : Int) ≤ h then 2 else 0
theorem CloneE_ok (l : List E) (hne : l ≠ []) (hl : l.length < 2 ^ 30) : ACall Tryz.prog 107 [.t (.slice (eRows l))] (.t (.slice (eRows l))) := by
  have hrn : eRows l ≠ [] := by simpa [eRows] using hne
  have hrl : (eRows l).length = l.length := eRows_len l
  have hrk : ∀ r, r ∈ eRows l → r.length = 3 := fun r hr => eRows_k' hr
  refine ACall.of_body Tryz.func107 rfl (by kernel_rfl) ?_
  simp only [entry, Tryz.ntmps107]
  refine zU ?_
  generalize eRows l = rows at *
  repeat' (first|((first|(refine zT ?_;intro K' hK')|(refine zG ?_ ?_<;>(try refine zH ?_)<;>intro hguard<;>(try exact zX)<;>try intro K' hK'))<;>((try simp +contextual only [go_sem, hrl, chunks, List.range, List.range.loop]);(repeat' first|(with_reducible refine hK' _ _ ?_;clear hK' K')|(exact hrn)|(with_reducible exact hrk _ (by assumption))|(exact .inr True.intro)|exact zY|with_reducible refine And.intro ?_ ?_|(with_reducible intro hpath;try exact zP)|(refine hK' _ _ ?_;clear hK' K')|fail);try refine zS ?_))|(refine zE ?_;refine hK _ _ ?_;clear hK K)|(refine zN ?_;try refine zS ?_)|refine zA ?_|(refine zB ?_;intro K hK)|(refine zC ?_ ?_<;>(try refine zH ?_)<;>intro hcond<;>try exact zX)|fail)
  simp [Rets, aret, Blk.cells, ty, Tryz.results107, ares, toT1, toT, borrow, borrow0, capCell, toTree0]
theorem CloneE_none : ACall Tryz.prog 107 [.t (.slice [])] (.t (.slice [])) := by
  refine ACall.of_body Tryz.func107 rfl (by kernel_rfl) ?_
  simp only [entry, Tryz.ntmps107]
  refine zU ?_
  repeat' (first|((with_reducible refine AWp.seq (AWp.of_reg (id:=1) (AReg.pre 1 (fun K hK=>?_))));simp only [List.take_succ_cons,List.take_zero])|((with_reducible refine AWp.of_reg (id:=1) (AReg.pre 1 (fun K hK=>?_)));simp only [List.take_succ_cons,List.take_zero])|((first|(refine zT ?_;intro K' hK')|(refine zG ?_ ?_<;>(try refine zH ?_)<;>intro hguard<;>(try exact zX)<;>try intro K' hK'))<;>((try simp +contextual only [go_sem]);(repeat' first|(with_reducible refine hK' _ _ ?_;clear hK' K')|exact zY|with_reducible refine And.intro ?_ ?_|(with_reducible intro hpath;try exact zP)|(refine hK' _ _ ?_;clear hK' K')|fail);try refine zS ?_))|(refine zE ?_;refine hK _ _ ?_;clear hK K)|(refine zN ?_;try refine zS ?_)|refine zA ?_|(refine zB ?_;intro K hK)|(refine zC ?_ ?_<;>(try refine zH ?_)<;>intro hcond<;>try exact zX)|fail)
  simp only [List.drop_succ_cons, List.drop_zero]
  refine AReg.nilq (e := 76) false rfl rfl rfl (by simp only [ty]) rfl rfl (fun b => AReg.rest (fun K hK => ?_))
  cases b
  ·
    repeat' (first|((first|(refine zT ?_;intro K' hK')|(refine zG ?_ ?_<;>(try refine zH ?_)<;>intro hguard<;>(try exact zX)<;>try intro K' hK'))<;>((try simp +contextual only [go_sem, List.length_nil, chunks, List.range, List.range.loop, List.map_nil]);(repeat' first|(with_reducible refine hK' _ _ ?_;clear hK' K')|(exact .inr True.intro)|(exact absurd True.intro (by assumption))|exact zY|with_reducible refine And.intro ?_ ?_|(with_reducible intro hpath;try exact zP)|(refine hK' _ _ ?_;clear hK' K')|fail);try refine zS ?_))|(refine zE ?_;refine hK _ _ ?_;clear hK K)|(refine zN ?_;try refine zS ?_)|refine zA ?_|(refine zB ?_;intro K hK)|(refine zC ?_ ?_<;>(try refine zH ?_)<;>intro hcond<;>try exact zX)|fail)
    simp [Rets, aret, Blk.cells, ty, Tryz.results107, ares, toT1, toT, borrow, borrow0, capCell, toTree0]
  ·
    repeat' (first|((first|(refine zT ?_;intro K' hK')|(refine zG ?_ ?_<;>(try refine zH ?_)<;>intro hguard<;>(try exact zX)<;>try intro K' hK'))<;>((try simp +contextual only [go_sem]);(repeat' first|(with_reducible refine hK' _ _ ?_;clear hK' K')|exact zY|with_reducible refine And.intro ?_ ?_|(with_reducible intro hpath;try exact zP)|(refine hK' _ _ ?_;clear hK' K')|fail);try refine zS ?_))|(refine zE ?_;refine hK _ _ ?_;clear hK K)|(refine zN ?_;try refine zS ?_)|refine zA ?_|(refine zB ?_;intro K hK)|(refine zC ?_ ?_<;>(try refine zH ?_)<;>intro hcond<;>try exact zX)|fail)
    simp [Rets, aret, Blk.cells, ty, Tryz.results107, ares, toT1, toT, borrow, borrow0, capCell, toTree0]
theorem copied_ok (g : G) (hl : g.es.length ≤ 40) : ACall Tryz.prog 63 [tG g] (tG g) := by
  obtain ⟨n, es⟩ := g
  simp only at hl
  by_cases he : es = []
  · subst he
    have hN := CloneE_none
    refine ACall.of_body Tryz.func63 rfl (by kernel_rfl) ?_
    simp only [entry, Tryz.ntmps63, tG, eRows]
    refine zU ?_
    refine zR trivial (zc hN trivial) trivial ?_
    simp [Rets, aret, Blk.cells, ty, Tryz.results63, ares, toT1, toT, borrow, borrow0, capCell, toTree0, tG, eRows]
  · have hC := CloneE_ok es he (by omega)
    refine ACall.of_body Tryz.func63 rfl (by kernel_rfl) ?_
    simp only [entry, Tryz.ntmps63, tG]
    refine zU ?_
    refine zR trivial (zc hC trivial) trivial ?_
    simp [Rets, aret, Blk.cells, ty, Tryz.results63, ares, toT1, toT, borrow, borrow0, capCell, toTree0, tG]
theorem rDefault_ok (g : G) (hl : g.es.length ≤ 40) : ACall Tryz.prog 28 [tG g] (.tup [tR (if joinedE g ≠ 0 then ⟨0, [], []⟩ else ⟨g.n, g.es, halvesL (endsL g.es) g.n.toNat (2 * (endsL g.es).length)⟩), tint (joinedE g)]) := by
  have hJ := rjoined_ok g hl
  have hC := copied_ok g hl
  by_cases hj : joinedE g = 0
  case neg =>
    rw [if_pos hj]
    have hL : ∃ L, (if checkG g ≠ 0 then [] else endsL g.es) = L := ⟨_, rfl⟩
    obtain ⟨L, hL⟩ := hL
    rw [hL] at hJ
    generalize joinedE g = E at *
    obtain ⟨n, es⟩ := g
    refine ACall.of_body Tryz.func28 rfl (by kernel_rfl) ?_
    simp only [entry, Tryz.ntmps28, tG]
    refine zU ?_
    refine zR (zc @hj trivial) (zc hJ trivial) trivial ?_
    simp [Rets, aret, Blk.cells, ty, Tryz.results28, ares, toT1, toT, borrow, borrow0, capCell, toTree0, tint, tR, eRows, llRows]
  have hc : checkG g = 0 := by
    unfold joinedE at hj
    by_cases h : checkG g = 0
    · exact h
    · rw [if_pos h] at hj; exact absurd hj h
  have h12 := (checkG_zero.1 hc).1
  have hlen := ends_len hl hc
  rw [if_neg (by omega), hj] at hJ
  rw [if_neg (by omega), hj]
  have hat : ∀ h, h < 2 * (endsL g.es).length → 0 ≤ atL (endsL g.es) h ∧ atL (endsL g.es) h < (g.n.toNat : Nat) := fun h hh => by
    have := atL_range (r := ⟨g.n, g.es, []⟩) hc hh
    have h1 : (⟨g.n, g.es, []⟩ : R).n = g.n := rfl
    have h2 : (⟨g.n, g.es, []⟩ : R).es = g.es := rfl
    rw [h1, h2] at this
    omega
  have hH := halves_ok (endsL g.es) g.n.toNat (by omega) (by omega) hat
  rw [show ((g.n.toNat : Nat) : Int) = g.n by omega] at hH
  clear hat hc hj
  obtain ⟨n, es⟩ := g
  simp only at hH hJ ⊢
  generalize halvesL (endsL es) n.toNat (2 * (endsL es).length) = hs at *
  generalize endsL es = L at *
  refine ACall.of_body Tryz.func28 rfl (by kernel_rfl) ?_
  simp only [entry, Tryz.ntmps28, tG]
  refine zU ?_
  refine zR trivial (zc hJ (zc hC (zc hH trivial))) trivial ?_
  simp [Rets, aret, Blk.cells, ty, Tryz.results28, ares, toT1, toT, borrow, borrow0, capCell, toTree0, tint, tR]
end Go.Proofs.YtfkegnhpihoncaaGreat
