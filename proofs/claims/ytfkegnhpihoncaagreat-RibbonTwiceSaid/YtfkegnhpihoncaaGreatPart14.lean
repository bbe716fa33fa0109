/- A part of the proof: contracts of functions of the program, and plain lemmas. -/
import Derived.Test.YtfkegnhpihoncaaGreatPart13
import Derived.Test.YtfkegnhpihoncaaGreatLayerC
import Derived.Test.YtfkegnhpihoncaaGreatPart01
set_option linter.all false
namespace Go.Proofs.YtfkegnhpihoncaaGreat
open Go.Sp
set_option linter.unusedSimpArgs false
set_option linter.unusedVariables false
set_option maxHeartbeats 4000000
set_option maxRecDepth 100000
theorem idx_at {l : List Int} (hn : l.Nodup) {i : Nat} {x : Int} (h : l[i]? = some x) : l.idxOf x = i := by
  obtain ⟨hi, e⟩ := List.getElem?_eq_some_iff.1 h
  obtain ⟨q1, q2⟩ := getD_idx (List.mem_of_getElem? h)
  have := (List.getElem?_eq_some_iff.1 q2).2
  exact nodup_at hn q1 hi (this.trans e.symm)
def gB (L : List (Int × Int)) (ar : List (List Int)) (v i h : Nat) : Int :=
  if atL L h < v ∨ (atL L h = v ∧ (ar.getD v []).idxOf (h : Int) < i) then nextR L ar h else 0
section
variable {r : R}
theorem gB_step (hr : ROk r) {v i : Nat} {l : List Int} {x : Int} (hl : r.ar[v]? = some l) (hx : l[i]? = some x) :
    (0 ≤ x ∧ x < 2 * ((endsL r.es).length : Int)) ∧ (∃ y, l[(i + 1) % l.length]? = some y ∧ (tabI (2 * (endsL r.es).length) (gB (endsL r.es) r.ar v i)).set x.toNat y = tabI (2 * (endsL r.es).length) (gB (endsL r.es) r.ar v (i + 1))) := by
  have hok := hr.l v l hl
  have hi := (List.getElem?_eq_some_iff.1 hx).1
  have hm := ownL_mem.1 (hok.sub x (List.mem_of_getElem? hx))
  have hm2 : x < 2 * ((endsL r.es).length : Int) := by have := hm.2.1; omega
  have hgl : r.ar.getD v [] = l := by rw [List.getD_eq_getElem?_getD, hl]; rfl
  have hidx := idx_at hok.nd hx
  refine ⟨⟨hm.1, hm2⟩, ?_⟩
  have hml : (i + 1) % l.length < l.length := Nat.mod_lt _ (by omega)
  have hnx : nextR (endsL r.es) r.ar x.toNat = l[(i + 1) % l.length] := by
    unfold nextR nextI
    rw [hm.2.2, Int.toNat_natCast, hgl, show ((x.toNat : Nat) : Int) = x by omega, hidx, List.getD_eq_getElem?_getD, List.getElem?_eq_getElem hml]; rfl
  refine ⟨_, List.getElem?_eq_getElem hml, ?_⟩
  rw [tabI_set _ _ (by omega)]
  refine tabI_congr fun j hj => ?_
  unfold gB
  by_cases e : j = x.toNat
  · subst e
    rw [if_pos rfl, if_pos (.inr ⟨hm.2.2, by rw [hgl, show ((x.toNat : Nat) : Int) = x by omega, hidx]; omega⟩), hnx]
  · rw [if_neg e]
    have hne : l.idxOf (j : Int) ≠ i := fun h => by
      have h1 : l.idxOf (j : Int) < l.length := by omega
      have h2 := List.getElem_idxOf h1
      have h3 := (List.getElem?_eq_some_iff.1 hx).2
      have h4 : l[l.idxOf (j : Int)] = l[i] := by congr 1
      rw [h2, h3] at h4
      omega
    rw [hgl]
    by_cases h1 : atL (endsL r.es) j < v ∨ (atL (endsL r.es) j = v ∧ l.idxOf (j : Int) < i)
    · rw [if_pos h1, if_pos (by omega)]
    · rw [if_neg h1, if_neg (by omega)]
theorem gB_row (hr : ROk r) {v : Nat} {l : List Int} (hl : r.ar[v]? = some l) : tabI (2 * (endsL r.es).length) (gB (endsL r.es) r.ar v l.length) = tabI (2 * (endsL r.es).length) (gB (endsL r.es) r.ar (v + 1) 0) := by
  have hok := hr.l v l hl
  have hgl : r.ar.getD v [] = l := by rw [List.getD_eq_getElem?_getD, hl]; rfl
  refine tabI_congr fun j hj => ?_
  unfold gB
  rw [hgl]
  by_cases h : atL (endsL r.es) j = v
  · have hm : (j : Int) ∈ l := hok.sup _ (ownL_mem.2 ⟨by omega, by omega, by simpa using h⟩)
    rw [if_pos (.inr ⟨h, (getD_idx hm).1⟩), if_pos (.inl (by omega))]
  · by_cases h1 : atL (endsL r.es) j < v
    · rw [if_pos (.inl h1), if_pos (.inl (by omega))]
    · rw [if_neg (by omega), if_neg (by omega)]
theorem gB_zero (L : List (Int × Int)) (ar : List (List Int)) (hat : ∀ h, h < 2 * L.length → 0 ≤ atL L h) : List.replicate (2 * L.length) (0 : Int) = tabI (2 * L.length) (gB L ar 0 0) := by
  rw [tabI_rep]
  refine tabI_congr fun j hj => ?_
  have := hat j hj
  unfold gB
  rw [if_neg (by omega)]
theorem gB_all (hr : ROk r) : tabI (2 * (endsL r.es).length) (gB (endsL r.es) r.ar r.ar.length 0) = tabI (2 * (endsL r.es).length) (nextR (endsL r.es) r.ar) := by
  refine tabI_congr fun j hj => ?_
  have := atL_range hr.c hj
  have := hr.len
  unfold gB
  rw [if_pos (.inl (by omega))]
end
theorem tmodn (i n : Nat) : Int.tmod ((i : Int) + 1) (n : Int) = (((i + 1) % n : Nat) : Int) := rfl
theorem behind_ok (r : R) (hs : RSm r) (hr : ROk r) : ACall Tryz.prog 72 [tR r, tint (endsL r.es).length] (tints (tabI (2 * (endsL r.es).length) (nextR (endsL r.es) r.ar))) := by
  have hlen : (endsL r.es).length ≤ 2000 := ends_len (g := r.g) hs.es hr.c
  have hz := gB_zero (endsL r.es) r.ar fun h hh => (atL_range hr.c hh).1
  have hst := fun v i l x => gB_step hr (v := v) (i := i) (l := l) (x := x)
  have hrow := fun v l => gB_row hr (v := v) (l := l)
  have hall := gB_all hr
  have hA := hs.ar
  have hLl := hs.l
  clear hs hr
  obtain ⟨n, es, ar⟩ := r
  simp only at hlen hz hst hrow hall hA hLl ⊢
  generalize endsL es = L at *
  have h2 : ((2 : Int) * (L.length : Int)).toNat = 2 * L.length := by omega
  refine ACall.of_body Tryz.func72 rfl (by kernel_rfl) ?_
  simp only [entry, Tryz.ntmps72, tR, tint]
  refine zU ?_
  refine zR (zc @made_ints (zc @h2 (zc @llRows_len trivial))) trivial trivial ?_
  rw [hz]
  refine AWp.loopS (α:=Nat) 41 (fun v=>[(2,.c (.ptr 0 0)),(5,.c (.ref 1 1 0 (2 * L.length) (2 * L.length))),(14,.c (.slice (llRows ar) .none)),(15,.c (.int .i64 (ar.length : Int))),(16,.c (.int .i64 (v : Int)))]) (fun v=>[.box [.int .i64 n, .slice (eRows es) .none, .slice (llRows ar) .none], .box (iC (tabI (2 * L.length) (gB L ar v 0)))]) (fun v=>v ≤ ar.length) (fun v=>ar.length - v) (0) (hk:=Weak.headL 2 41 [2, 5, 14, 15, 16] (zV @iC_in)) (h0:=?_) (round:=fun v hI=>?_)
  · exact Nat.zero_le _
  · have hv : v ≤ ar.length := hI
    clear hI
    by_cases hlt : v < ar.length
    · have hltI : (v : Int) < ar.length := by omega
      have e0 := List.getElem?_eq_getElem hlt
      have e1 := llRows_get e0
      have hl := hLl _ (List.getElem_mem hlt)
      have hs2 := fun i x => hst v i _ x e0
      have hr2 := hrow v _ e0
      generalize ar[v] = l at *
      refine zR (zc @hltI (zc @e1 (zc @llRows_len (zc @iRows_len trivial)))) trivial trivial ?_
      refine AWp.loopS (α:=Nat) 41 (fun i=>[(2,.c (.ptr 0 0)),(5,.c (.ref 1 1 0 (2 * L.length) (2 * L.length))),(7,.c (.slice (iRows l) .none)),(14,.c (.slice (llRows ar) .none)),(15,.c (.int .i64 (ar.length : Int))),(16,.c (.int .i64 (v : Int))),(20,.c (.slice (iRows l) .none)),(21,.c (.int .i64 (l.length : Int))),(22,.c (.int .i64 (i : Int)))]) (fun i=>[.box [.int .i64 n, .slice (eRows es) .none, .slice (llRows ar) .none], .box (iC (tabI (2 * L.length) (gB L ar v i)))]) (fun i=>i ≤ l.length) (fun i=>l.length - i) (0) (hk:=Weak.headL 2 41 [2, 5, 7, 14, 15, 16, 20, 21, 22] (zV @iC_in)) (h0:=?_) (round:=fun i hI=>?_)
      · exact Nat.zero_le _
      · have hi : i ≤ l.length := hI
        clear hI
        by_cases hlt2 : i < l.length
        · have hlt2I : (i : Int) < l.length := by omega
          have f0 := List.getElem?_eq_getElem hlt2
          have f1 := iRows_get f0
          obtain ⟨⟨hx0, hx1⟩, y, hy, hset⟩ := hs2 i _ f0
          have f2 := iRows_get hy
          have hml : (i + 1) % l.length < l.length := Nat.mod_lt _ (by omega)
          have hmlI : (((i + 1) % l.length : Nat) : Int) < l.length := by omega
          have htl := tabI_len (2 * L.length) (gB L ar v i)
          generalize l[i] = x at *
          obtain ⟨x, rfl⟩ := Int.eq_ofNat_of_zero_le hx0
          rw [Int.toNat_natCast] at hset
          have htm := tmodn i l.length
          generalize hB : tabI (2 * L.length) (gB L ar v (i + 1)) = B2 at *
          generalize tabI (2 * L.length) (gB L ar v i) = B at *
          generalize (i + 1) % l.length = q at *
          refine zR (zc @hlt2I (zc @f1 (zc @f2 (zc @iRows_len (zc @htm (zc @hmlI (zc @hx1 (zc @iC_len (zc @htl (zc @iC_set (zc @hset trivial))))))))))) trivial trivial ?_
          refine ⟨i + 1,Weak.headF 2 41 [2, 5, 7, 14, 15, 16, 20, 21, 22] (zc @hB trivial) (zV @iC_in),?_,?_⟩
          · exact hlt2
          · omega
        · have ei : i = l.length := by omega
          subst ei
          have hnl : ¬ ((l.length : Int) < l.length) := by omega
          rw [hr2]
          refine zR (zc @hnl trivial) trivial trivial ?_
          refine ⟨v + 1,Weak.headN 2 41 [2, 5, 14, 15, 16] (zV @iC_in),?_,?_⟩
          · exact hlt
          · omega
    · have ev : v = ar.length := by omega
      subst ev
      have hnl : ¬ ((ar.length : Int) < ar.length) := by omega
      rw [hall]
      have htl := tabI_len (2 * L.length) (nextR L ar)
      generalize tabI (2 * L.length) (nextR L ar) = B at *
      repeat' ((fail_if_success (with_reducible refine AWp.atSeq 11 ?_));(fail_if_success (with_reducible refine AWp.atLast 11 ?_));first|((first|(refine zT ?_;intro K' hK')|(refine zG ?_ ?_<;>(try refine zH ?_)<;>intro hguard<;>(try exact zX)<;>try intro K' hK'))<;>((try simp +contextual only [go_sem, hnl]);(repeat' first|(with_reducible refine hK' _ _ ?_;clear hK' K')|exact zY|with_reducible refine And.intro ?_ ?_|(with_reducible intro hpath;try exact zP)|(refine hK' _ _ ?_;clear hK' K')|fail);try refine zS ?_))|(refine zE ?_;refine hK _ _ ?_;clear hK K)|(refine zN ?_;try refine zS ?_)|refine zA ?_|(refine zB ?_;intro K hK)|(refine zC ?_ ?_<;>(try refine zH ?_)<;>intro hcond<;>try exact zX)|fail)
      refine AWp.freezeR 5 1 1 (2 * L.length) (2 * L.length) rfl rfl (iC_trees _) (iRows B) (by rw [iRows_len, htl]) (Nat.le_refl _) (fun r hr => iRows_k' hr) (iRows_pre _) ?_
      simp only [List.set_cons_succ, List.set_cons_zero]
      refine zR trivial trivial trivial ?_
      simp [Rets, aret, Blk.cells, ty, Tryz.results72, ares, toT1, toT, borrow, borrow0, capCell, toTree0, tints]
end Go.Proofs.YtfkegnhpihoncaaGreat
set_option linter.all false
namespace Go.Proofs.YtfkegnhpihoncaaGreat
open Go.Sp
set_option linter.unusedSimpArgs false
set_option linter.unusedVariables false
theorem nextI_at {l : List Int} (hn : l.Nodup) {i : Nat} {x : Int} (h : l[i]? = some x) : l[(i + 1) % l.length]? = some (nextI l x) := by
  have hi := (List.getElem?_eq_some_iff.1 h).1
  have hj : (i + 1) % l.length < l.length := Nat.mod_lt _ (by omega)
  unfold nextI
  rw [idx_at hn h, List.getD_eq_getElem?_getD, List.getElem?_eq_getElem hj]; rfl
theorem nextI_of {l : List Int} (hn : l.Nodup) {i : Nat} {x y : Int} (h : l[i]? = some x) (h2 : l[(i + 1) % l.length]? = some y) : nextI l x = y := by
  unfold nextI; rw [idx_at hn h, List.getD_eq_getElem?_getD, h2]; rfl
theorem rot_get {l : List Int} {k i : Nat} (hk : k ≤ l.length) (hi : i < l.length) : (l.drop k ++ l.take k)[i]? = l[(i + k) % l.length]? := by
  by_cases h : i + k < l.length
  · rw [List.getElem?_append_left (by rw [List.length_drop]; omega), List.getElem?_drop, Nat.mod_eq_of_lt h, Nat.add_comm]
  · rw [List.getElem?_append_right (by rw [List.length_drop]; omega), List.length_drop, List.getElem?_take_of_lt (by omega), Nat.mod_eq_sub_mod (by omega), Nat.mod_eq_of_lt (by omega), show i - (l.length - k) = i + k - l.length by omega]
theorem rot_perm (l : List Int) (k : Nat) : (l.drop k ++ l.take k).Perm l := List.perm_append_comm.trans (by rw [List.take_append_drop])
theorem nextI_rot {l : List Int} (hn : l.Nodup) {k : Nat} (hk : k ≤ l.length) {x : Int} (hx : x ∈ l) : nextI (l.drop k ++ l.take k) x = nextI l x := by
  have hp := rot_perm l k
  have hlen := hp.length_eq
  obtain ⟨i, hi, e⟩ := List.mem_iff_getElem.1 (hp.mem_iff.2 hx)
  have h1 := List.getElem?_eq_getElem hi
  rw [e] at h1
  rw [hlen] at hi
  have h2 := h1
  rw [rot_get hk hi] at h2
  have h3 := nextI_at hn h2
  refine nextI_of (hp.nodup_iff.2 hn) h1 ?_
  rw [hlen, rot_get hk (Nat.mod_lt _ (by omega)), Nat.mod_add_mod, show i + 1 + k = i + k + 1 by omega, ← h3, Nat.mod_add_mod]
theorem turn_perm (l : List Int) : (turnL l).Perm l := rot_perm l _
theorem leastN_le (l : List Int) : leastN l ≤ l.length := by
  have := (leastGo_spec l (l.length - 1)).1
  unfold leastN; omega
theorem least_le {m : List Int} {x : Int} (hx : x ∈ m) : m.getD (leastN m) 0 ≤ x := by
  obtain ⟨i, hi, rfl⟩ := List.mem_iff_getElem.1 hx
  have := (leastGo_spec m (m.length - 1)).2.1 i (by omega)
  rw [List.getD_eq_getElem?_getD (i := i), List.getElem?_eq_getElem hi] at this
  exact this
theorem turn_head {m : List Int} (h : m ≠ []) : (turnL m).getD 0 0 = m.getD (leastN m) 0 := by
  have h1 := leastN_lt h
  unfold turnL
  rw [List.getD_eq_getElem?_getD, List.getElem?_append_left (by rw [List.length_drop]; omega), List.getElem?_drop, List.getD_eq_getElem?_getD]; rfl
theorem getD_mem {m : List Int} {i : Nat} (h : i < m.length) : m.getD i 0 ∈ m := by
  rw [List.getD_eq_getElem?_getD, List.getElem?_eq_getElem h]; exact List.getElem_mem h
theorem sorted_head {own : List Int} (hs : own.Pairwise (· < ·)) {x : Int} (hx : x ∈ own) : own.getD 0 0 ≤ x := by
  obtain ⟨k, hk, rfl⟩ := List.mem_iff_getElem.1 hx
  rw [List.pairwise_iff_getElem] at hs
  rw [List.getD_eq_getElem?_getD, List.getElem?_eq_getElem (by omega), Option.getD_some]
  by_cases e : k = 0
  · subst e; exact Int.le_refl _
  · have := hs 0 k (by omega) hk (by omega); omega
theorem lstGo_ok {own : List Int} : ∀ {pre l : List Int}, (∀ x, x ∈ l → x ∈ own) → l.Nodup → (∀ x, x ∈ l → x ∉ pre) → lstGo own pre l = 0
  | _, [], _, _, _ => rfl
  | pre, h :: t, h1, h2, h3 => by
    rw [List.nodup_cons] at h2
    simp only [lstGo]
    rw [if_pos (h1 h (by simp)), if_neg (h3 h (by simp))]
    refine lstGo_ok (fun x hx => h1 x (by simp [hx])) h2.2 fun x hx hp => ?_
    rcases List.mem_append.1 hp with hp | hp
    · exact h3 x (by simp [hx]) hp
    · rw [List.mem_singleton] at hp; subst hp; exact h2.1 hx
theorem lstErr_ok {l own : List Int} (h : LOk l own) : lstErr l own = 0 := by
  unfold lstErr
  have h1 := lstGo_ok h.sub h.nd (pre := []) (fun _ _ hp => by cases hp)
  rw [if_neg (by have := h.len; omega), h1, if_neg (by omega), if_neg]
  rintro ⟨h2, h3⟩
  rcases h.hd with h4 | h4
  · exact h2 h4
  · exact h3 h4
theorem chkGo_ok {L : List (Int × Int)} {N : Nat} : ∀ {v : Nat} {ar : List (List Int)}, (∀ i l, ar[i]? = some l → LOk l (ownL L ((v + i : Nat) : Int) N)) → chkGo L N v ar = 0
  | v, [], _ => rfl
  | v, x :: ar, h => by
    simp only [chkGo]
    have h0 := lstErr_ok (h 0 x rfl)
    rw [Nat.add_zero] at h0
    rw [h0, if_neg (by omega)]
    refine chkGo_ok fun i l hl => ?_
    have := h (i + 1) l (by simpa using hl)
    rwa [show v + 1 + i = v + (i + 1) by omega]
def mirR (r : R) : R := ⟨r.n, r.es, mirL r.ar⟩
theorem turn_rot {l : List Int} (hn : l.Nodup) (hd : ∀ x, x ∈ l → l.getD 0 0 ≤ x) {k : Nat} (hk : k ≤ l.length) : turnL (l.drop k ++ l.take k) = l := by
  by_cases e : l = []
  · subst e; simp [turnL_nil]
  · have hp := rot_perm l k
    have hlen := hp.length_eq
    have hpos := List.length_pos_iff.2 e
    have e2 : l.drop k ++ l.take k ≠ [] := fun h => by rw [h] at hlen; simp at hlen; omega
    have hj := leastN_lt e2
    rw [hlen] at hj
    have hg := rot_get hk hj
    have h1 := least_le (m := l.drop k ++ l.take k) (hp.mem_iff.2 (getD_mem hpos))
    have h2 := hd _ (hp.mem_iff.1 (getD_mem (m := l.drop k ++ l.take k) (by rw [hlen]; exact hj)))
    have hm : (leastN (l.drop k ++ l.take k) + k) % l.length < l.length := Nat.mod_lt _ hpos
    have g1 : (l.drop k ++ l.take k).getD (leastN (l.drop k ++ l.take k)) 0 = l[(leastN (l.drop k ++ l.take k) + k) % l.length] := by
      rw [List.getD_eq_getElem?_getD, hg, List.getElem?_eq_getElem hm, Option.getD_some]
    have g2 : l.getD 0 0 = l[0] := by rw [List.getD_eq_getElem?_getD, List.getElem?_eq_getElem hpos, Option.getD_some]
    rw [g1, g2] at h1 h2
    have h3 := nodup_at hn hm hpos (by omega)
    by_cases c : leastN (l.drop k ++ l.take k) + k < l.length
    · rw [Nat.mod_eq_of_lt c] at h3
      have hk0 : k = 0 := by omega
      subst hk0
      have hl0 : leastN (l.drop 0 ++ l.take 0) = 0 := by omega
      unfold turnL
      rw [hl0]; simp
    · rw [Nat.mod_eq_sub_mod (by omega), Nat.mod_eq_of_lt (by omega)] at h3
      have hl0 : leastN (l.drop k ++ l.take k) = (l.drop k).length := by rw [List.length_drop]; omega
      unfold turnL
      rw [hl0, List.drop_left, List.take_left, List.take_append_drop]
end Go.Proofs.YtfkegnhpihoncaaGreat
