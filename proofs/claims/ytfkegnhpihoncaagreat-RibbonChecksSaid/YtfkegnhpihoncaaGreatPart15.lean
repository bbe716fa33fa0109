/- A part of the proof: contracts of functions of the program, and plain lemmas. -/
import Derived.Test.YtfkegnhpihoncaaGreatPart14
import Derived.Test.YtfkegnhpihoncaaGreatLayerC
import Derived.Test.YtfkegnhpihoncaaGreatPart13
import Derived.Test.YtfkegnhpihoncaaGreatPart05
set_option linter.all false
namespace Go.Proofs.YtfkegnhpihoncaaGreat
open Go.Sp
set_option linter.unusedSimpArgs false
set_option linter.unusedVariables false
set_option maxHeartbeats 4000000
set_option maxRecDepth 100000
theorem setMany_mid (pre mid post new : List ACell) (h : new.length = mid.length) : setMany (pre ++ mid ++ post) pre.length new = pre ++ new ++ post := by
  apply List.ext_getElem?
  intro i
  rw [setMany_get _ _ _ _ (by simp; omega)]
  by_cases h1 : i < pre.length
  · rw [if_neg (by omega), List.append_assoc, List.append_assoc, List.getElem?_append_left h1, List.getElem?_append_left h1]
  · by_cases h2 : i < pre.length + new.length
    · rw [if_pos ⟨by omega, h2⟩, List.append_assoc, List.getElem?_append_right (by omega), List.getElem?_append_left (by omega)]
    · rw [if_neg (by omega), List.getElem?_append_right (by simp; omega), List.getElem?_append_right (l₁ := pre ++ new) (by simp; omega)]
      simp [h]
theorem flat_iRows (l : List Int) : flatRows (iRows l) = iC l := by
  unfold flatRows iRows iC
  induction l with
  | nil => rfl
  | cons x l ih => simp only [List.map_cons, List.flatten_cons, List.map_append, ih]; rfl
theorem iC_app (a b : List Int) : iC (a ++ b) = iC a ++ iC b := by simp [iC]
theorem iC_rep (n : Nat) (x : Int) : iC (List.replicate n x) = List.replicate n (.int .i64 x) := by simp [iC]
theorem iC_put (A l : List Int) (m : Nat) : setMany (iC (A ++ List.replicate (l.length + m) 0)) A.length (iC l) = iC (A ++ l ++ List.replicate m 0) := by
  have e : List.replicate (l.length + m) (0 : Int) = List.replicate l.length 0 ++ List.replicate m 0 := List.replicate_append_replicate.symm
  rw [e, ← List.append_assoc, iC_app, iC_app, iC_app, iC_app]
  have := setMany_mid (iC A) (iC (List.replicate l.length 0)) (iC (List.replicate m 0)) (iC l) (by simp [iC_len])
  rwa [iC_len] at this
def catT (ls : List (List Int)) (i : Nat) : List Int := (ls.take i).flatten
theorem catT_all (ls : List (List Int)) : catT ls ls.length = ls.flatten := by unfold catT; rw [List.take_length]
theorem Concat_ok (ls : List (List Int)) (h0 : 0 < ls.flatten.length) (hn : ls.flatten.length < 2 ^ 30) (hl : ls.length < 2 ^ 20) : ACall Tryz.prog 106 [tlists ls] (tints ls.flatten) := by
  have htake : ∀ i, i < ls.length → catT ls (i + 1) = catT ls i ++ ls.getD i [] := fun i hi => by
    unfold catT; rw [List.take_succ_eq_append_getElem hi, List.flatten_append, List.getD_eq_getElem?_getD, List.getElem?_eq_getElem hi]; simp
  have hle : ∀ i : Nat, (catT ls i).length ≤ ls.flatten.length := fun i => by
    unfold catT
    have := congrArg List.flatten (List.take_append_drop i ls)
    rw [List.flatten_append] at this
    have := congrArg List.length this
    rw [List.length_append] at this; omega
  refine ACall.of_body Tryz.func106 rfl (by kernel_rfl) ?_
  simp only [entry, Tryz.ntmps106, tlists]
  refine zU ?_
  refine zR (zc @llRows_len trivial) trivial trivial ?_
  refine AWp.loopS (α:=Nat) 36 (fun i=>[(0,.c (.slice (llRows ls) .none)),(3,.c (.int .i64 ((catT ls i).length : Int))),(9,.c (.slice (llRows ls) .none)),(10,.c (.int .i64 (ls.length : Int))),(11,.c (.int .i64 (i : Int)))]) (fun i=>[]) (fun i=>i ≤ ls.length) (fun i=>ls.length - i) (0) (hk:=Weak.headL 0 36 [0, 3, 9, 10, 11] (zV @iC_in)) (h0:=?_) (round:=fun i hI=>?_)
  · exact Nat.zero_le _
  · have hi : i ≤ ls.length := hI
    clear hI
    by_cases hlt : i < ls.length
    · have hltI : (i : Int) < ls.length := by omega
      have e0 := List.getElem?_eq_getElem hlt
      have e1 := llRows_get e0
      have ht := htake i hlt
      have hl1 := hle (i + 1)
      rw [List.getD_eq_getElem?_getD, e0, Option.getD_some] at ht
      rw [ht, List.length_append] at hl1
      have hc : ((catT ls i).length : Int) + (ls[i].length : Int) = ((catT ls (i + 1)).length : Int) := by rw [ht, List.length_append]; omega
      have hge : ¬ (((catT ls (i + 1)).length : Int) < 0) := by omega
      generalize ls[i] = l at *
      generalize catT ls i = A at *
      refine zR (zc @hltI (zc @llRows_len (zc @iRows_len (zc @e1 (zc @hc (zc @hge trivial)))))) trivial trivial ?_
      refine ⟨i + 1,Weak.headN 0 36 [0, 3, 9, 10, 11] (zV @iC_in),?_,?_⟩
      · exact hlt
      · omega
    · have ei : i = ls.length := by omega
      subst ei
      have hnl : ¬ ((ls.length : Int) < ls.length) := by omega
      rw [catT_all]
      have hG := Grow_ok [] ls.flatten.length h0 hn
      repeat' (first|((first|(refine zT ?_;intro K' hK')|(refine zG ?_ ?_<;>(try refine zH ?_)<;>intro hguard<;>(try exact zX)<;>try intro K' hK'))<;>((try simp +contextual only [go_sem, hnl, llRows_len]);(repeat' first|(with_reducible refine hK' _ _ ?_;clear hK' K')|((with_reducible first|refine ⟨_,_,hG,?_⟩|refine ⟨_,hG,?_⟩);try simp +contextual only [go_sem, hnl, llRows_len])|exact zY|with_reducible refine And.intro ?_ ?_|(with_reducible intro hpath;try exact zP)|(refine hK' _ _ ?_;clear hK' K')|fail);try refine zS ?_))|(refine zE ?_;refine hK _ _ ?_;clear hK K)|(refine zN ?_;try refine zS ?_)|refine zA ?_|(refine zB ?_;intro K hK)|(refine zC ?_ ?_<;>(try refine zH ?_)<;>intro hcond<;>try exact zX)|fail)
      try simp only [List.nil_append, List.length_nil]
      rw [← iC_rep]
      refine AWp.loopS (α:=Nat) 36 (fun i=>[(6,.c (.ref 0 1 0 (catT ls i).length ls.flatten.length)),(25,.c (.slice (llRows ls) .none)),(26,.c (.int .i64 (ls.length : Int))),(27,.c (.int .i64 (i : Int)))]) (fun i=>[.box (iC (catT ls i ++ List.replicate (ls.flatten.length - (catT ls i).length) 0))]) (fun i=>i ≤ ls.length) (fun i=>ls.length - i) (0) (hk:=Weak.headL 1 36 [6, 25, 26, 27] (zV @iC_in)) (h0:=?_) (round:=fun i hI=>?_)
      · exact Nat.zero_le _
      · have hi : i ≤ ls.length := hI
        clear hI
        by_cases hlt : i < ls.length
        · have hltI : (i : Int) < ls.length := by omega
          have e0 := List.getElem?_eq_getElem hlt
          have e1 := llRows_get e0
          have ht := htake i hlt
          have hl1 := hle (i + 1)
          rw [List.getD_eq_getElem?_getD, e0, Option.getD_some] at ht
          rw [ht, List.length_append] at hl1
          have hm : ls.flatten.length - (catT ls i).length = ls[i].length + (ls.flatten.length - (catT ls (i + 1)).length) := by rw [ht, List.length_append]; omega
          have hp := iC_put (catT ls i) ls[i] (ls.flatten.length - (catT ls (i + 1)).length)
          rw [← hm, ← ht] at hp
          have hlen : (catT ls (i + 1)).length = (catT ls i).length + ls[i].length := by rw [ht, List.length_append]
          generalize ls[i] = l at *
          generalize hB : catT ls (i + 1) = B at *
          generalize catT ls i = A at *
          generalize ls.flatten.length = n at *
          repeat' (first|((with_reducible refine AWp.seq (AWp.of_reg (id:=13) (AReg.pre 2 (fun K hK=>?_))));simp only [List.take_succ_cons,List.take_zero])|((with_reducible refine AWp.of_reg (id:=13) (AReg.pre 2 (fun K hK=>?_)));simp only [List.take_succ_cons,List.take_zero])|((first|(refine zT ?_;intro K' hK')|(refine zG ?_ ?_<;>(try refine zH ?_)<;>intro hguard<;>(try exact zX)<;>try intro K' hK'))<;>((try simp +contextual only [go_sem, hltI, llRows_len, iRows_len, e1, Int.toNat_natCast]);(repeat' first|(with_reducible refine hK' _ _ ?_;clear hK' K')|exact zY|with_reducible refine And.intro ?_ ?_|(with_reducible intro hpath;try exact zP)|(refine hK' _ _ ?_;clear hK' K')|fail);try refine zS ?_))|(refine zE ?_;refine hK _ _ ?_;clear hK K)|(refine zN ?_;try refine zS ?_)|refine zA ?_|(refine zB ?_;intro K hK)|(refine zC ?_ ?_<;>(try refine zH ?_)<;>intro hcond<;>try exact zX)|fail)
          simp only [List.drop_succ_cons, List.drop_zero]
          refine AReg.step rfl rfl (step_append_ref (e := 3) (e2 := 3) (rows := iRows l) _ _ _ _ rfl (by simp only [ty]) (by simp only [ty]) (by simp only [ty]) rfl rfl (fun r hr => iRows_k' hr) rfl (by rw [iRows_len]; omega) (by rw [iRows_len, iC_len, List.length_append, List.length_replicate]; omega)) ?_
          simp only [flat_iRows, Nat.zero_add, hp, iRows_len, ← hlen, List.set_cons_zero]
          refine AReg.rest (fun K hK => ?_)
          repeat' (first|((first|(refine zT ?_;intro K' hK')|(refine zG ?_ ?_<;>(try refine zH ?_)<;>intro hguard<;>(try exact zX)<;>try intro K' hK'))<;>((try simp +contextual only [go_sem, hltI]);(repeat' first|(with_reducible refine hK' _ _ ?_;clear hK' K')|exact zY|with_reducible refine And.intro ?_ ?_|(with_reducible intro hpath;try exact zP)|(refine hK' _ _ ?_;clear hK' K')|fail);try refine zS ?_))|(refine zE ?_;refine hK _ _ ?_;clear hK K)|(refine zN ?_;try refine zS ?_)|refine zA ?_|(refine zB ?_;intro K hK)|(refine zC ?_ ?_<;>(try refine zH ?_)<;>intro hcond<;>try exact zX)|fail)
          refine ⟨i + 1,Weak.headF 1 36 [6, 25, 26, 27] (zc @hB trivial) (zV @iC_in),?_,?_⟩
          · exact hlt
          · omega
        · have ei : i = ls.length := by omega
          subst ei
          have hnl : ¬ ((ls.length : Int) < ls.length) := by omega
          have hz : iC (catT ls ls.length ++ List.replicate (ls.flatten.length - (catT ls ls.length).length) 0) = iC ls.flatten := by rw [catT_all, Nat.sub_self, List.replicate_zero, List.append_nil]
          rw [hz, catT_all]
          repeat' ((fail_if_success (with_reducible refine AWp.atSeq 15 ?_));(fail_if_success (with_reducible refine AWp.atLast 15 ?_));first|((first|(refine zT ?_;intro K' hK')|(refine zG ?_ ?_<;>(try refine zH ?_)<;>intro hguard<;>(try exact zX)<;>try intro K' hK'))<;>((try simp +contextual only [go_sem, hnl]);(repeat' first|(with_reducible refine hK' _ _ ?_;clear hK' K')|exact zY|with_reducible refine And.intro ?_ ?_|(with_reducible intro hpath;try exact zP)|(refine hK' _ _ ?_;clear hK' K')|fail);try refine zS ?_))|(refine zE ?_;refine hK _ _ ?_;clear hK K)|(refine zN ?_;try refine zS ?_)|refine zA ?_|(refine zB ?_;intro K hK)|(refine zC ?_ ?_<;>(try refine zH ?_)<;>intro hcond<;>try exact zX)|fail)
          refine AWp.freezeR 6 0 1 ls.flatten.length ls.flatten.length rfl rfl (iC_trees _) (iRows ls.flatten) (by rw [iRows_len]) (Nat.le_refl _) (fun r hr => iRows_k' hr) (iRows_pre _) ?_
          simp only [List.set_cons_succ, List.set_cons_zero]
          refine zR trivial trivial trivial ?_
          simp [Rets, aret, Blk.cells, ty, Tryz.results106, ares, toT1, toT, borrow, borrow0, capCell, toTree0, tints]
end Go.Proofs.YtfkegnhpihoncaaGreat
set_option linter.all false
namespace Go.Proofs.YtfkegnhpihoncaaGreat
open Go.Sp
set_option linter.unusedSimpArgs false
set_option linter.unusedVariables false
set_option maxHeartbeats 4000000
set_option maxRecDepth 100000
theorem idx_at {l : List Int} (hn : l.Nodup) {i : Nat} {x : Int} (h : l[i]? = some x) : l.idxOf x = i := by
  obtain ⟨hi, e⟩ := List.getElem?_eq_some_iff.1 h
  obtain ⟨q1, q2⟩ := getD_idx (List.mem_of_getElem? h)
  have := (List.getElem?_eq_some_iff.1 q2).2
  exact nodup_at hn q1 hi (this.trans e.symm)
def gB (L : List (Int × Int)) (ar : List (List Int)) (v i h : Nat) : Int :=
  if atL L h < v ∨ (atL L h = v ∧ (ar.getD v []).idxOf (h : Int) < i) then nextR L ar h else 0
section
variable {r : R}
theorem gB_step (hr : ROk r) {v i : Nat} {l : List Int} {x : Int} (hl : r.ar[v]? = some l) (hx : l[i]? = some x) :
    (0 ≤ x ∧ x < 2 * ((endsL r.es).length : Int)) ∧ (∃ y, l[(i + 1) % l.length]? = some y ∧ (tabI (2 * (endsL r.es).length) (gB (endsL r.es) r.ar v i)).set x.toNat y = tabI (2 * (endsL r.es).length) (gB (endsL r.es) r.ar v (i + 1))) := by
  have hok := hr.l v l hl
  have hi := (List.getElem?_eq_some_iff.1 hx).1
  have hm := ownL_mem.1 (hok.sub x (List.mem_of_getElem? hx))
  have hm2 : x < 2 * ((endsL r.es).length : Int) := by have := hm.2.1; omega
  have hgl : r.ar.getD v [] = l := by rw [List.getD_eq_getElem?_getD, hl]; rfl
  have hidx := idx_at hok.nd hx
  refine ⟨⟨hm.1, hm2⟩, ?_⟩
  have hml : (i + 1) % l.length < l.length := Nat.mod_lt _ (by omega)
  have hnx : nextR (endsL r.es) r.ar x.toNat = l[(i + 1) % l.length] := by
    unfold nextR nextI
    rw [hm.2.2, Int.toNat_natCast, hgl, show ((x.toNat : Nat) : Int) = x by omega, hidx, List.getD_eq_getElem?_getD, List.getElem?_eq_getElem hml]; rfl
  refine ⟨_, List.getElem?_eq_getElem hml, ?_⟩
  rw [tabI_set _ _ (by omega)]
  refine tabI_congr fun j hj => ?_
  unfold gB
  by_cases e : j = x.toNat
  · subst e
    rw [if_pos rfl, if_pos (.inr ⟨hm.2.2, by rw [hgl, show ((x.toNat : Nat) : Int) = x by omega, hidx]; omega⟩), hnx]
  · rw [if_neg e]
    have hne : l.idxOf (j : Int) ≠ i := fun h => by
      have h1 : l.idxOf (j : Int) < l.length := by omega
      have h2 := List.getElem_idxOf h1
      have h3 := (List.getElem?_eq_some_iff.1 hx).2
      have h4 : l[l.idxOf (j : Int)] = l[i] := by congr 1
      rw [h2, h3] at h4
      omega
    rw [hgl]
    by_cases h1 : atL (endsL r.es) j < v ∨ (atL (endsL r.es) j = v ∧ l.idxOf (j : Int) < i)
    · rw [if_pos h1, if_pos (by omega)]
    · rw [if_neg h1, if_neg (by omega)]
theorem gB_row (hr : ROk r) {v : Nat} {l : List Int} (hl : r.ar[v]? = some l) : tabI (2 * (endsL r.es).length) (gB (endsL r.es) r.ar v l.length) = tabI (2 * (endsL r.es).length) (gB (endsL r.es) r.ar (v + 1) 0) := by
  have hok := hr.l v l hl
  have hgl : r.ar.getD v [] = l := by rw [List.getD_eq_getElem?_getD, hl]; rfl
  refine tabI_congr fun j hj => ?_
  unfold gB
  rw [hgl]
  by_cases h : atL (endsL r.es) j = v
  · have hm : (j : Int) ∈ l := hok.sup _ (ownL_mem.2 ⟨by omega, by omega, by simpa using h⟩)
    rw [if_pos (.inr ⟨h, (getD_idx hm).1⟩), if_pos (.inl (by omega))]
  · by_cases h1 : atL (endsL r.es) j < v
    · rw [if_pos (.inl h1), if_pos (.inl (by omega))]
    · rw [if_neg (by omega), if_neg (by omega)]
theorem gB_zero (L : List (Int × Int)) (ar : List (List Int)) (hat : ∀ h, h < 2 * L.length → 0 ≤ atL L h) : List.replicate (2 * L.length) (0 : Int) = tabI (2 * L.length) (gB L ar 0 0) := by
  rw [tabI_rep]
  refine tabI_congr fun j hj => ?_
  have := hat j hj
  unfold gB
  rw [if_neg (by omega)]
theorem gB_all (hr : ROk r) : tabI (2 * (endsL r.es).length) (gB (endsL r.es) r.ar r.ar.length 0) = tabI (2 * (endsL r.es).length) (nextR (endsL r.es) r.ar) := by
  refine tabI_congr fun j hj => ?_
  have := atL_range hr.c hj
  have := hr.len
  unfold gB
  rw [if_pos (.inl (by omega))]
end
theorem tmodn (i n : Nat) : Int.tmod ((i : Int) + 1) (n : Int) = (((i + 1) % n : Nat) : Int) := rfl
theorem behind_ok (r : R) (hs : RSm r) (hr : ROk r) : ACall Tryz.prog 72 [tR r, tint (endsL r.es).length] (tints (tabI (2 * (endsL r.es).length) (nextR (endsL r.es) r.ar))) := by
  have hlen : (endsL r.es).length ≤ 2000 := ends_len (g := r.g) hs.es hr.c
  have hz := gB_zero (endsL r.es) r.ar fun h hh => (atL_range hr.c hh).1
  have hst := fun v i l x => gB_step hr (v := v) (i := i) (l := l) (x := x)
  have hrow := fun v l => gB_row hr (v := v) (l := l)
  have hall := gB_all hr
  have hA := hs.ar
  have hLl := hs.l
  clear hs hr
  obtain ⟨n, es, ar⟩ := r
  simp only at hlen hz hst hrow hall hA hLl ⊢
  generalize endsL es = L at *
  have h2 : ((2 : Int) * (L.length : Int)).toNat = 2 * L.length := by omega
  refine ACall.of_body Tryz.func72 rfl (by kernel_rfl) ?_
  simp only [entry, Tryz.ntmps72, tR, tint]
  refine zU ?_
  refine zR (zc @made_ints (zc @h2 (zc @llRows_len trivial))) trivial trivial ?_
  rw [hz]
  refine AWp.loopS (α:=Nat) 41 (fun v=>[(2,.c (.ptr 0 0)),(5,.c (.ref 1 1 0 (2 * L.length) (2 * L.length))),(14,.c (.slice (llRows ar) .none)),(15,.c (.int .i64 (ar.length : Int))),(16,.c (.int .i64 (v : Int)))]) (fun v=>[.box [.int .i64 n, .slice (eRows es) .none, .slice (llRows ar) .none], .box (iC (tabI (2 * L.length) (gB L ar v 0)))]) (fun v=>v ≤ ar.length) (fun v=>ar.length - v) (0) (hk:=Weak.headL 2 41 [2, 5, 14, 15, 16] (zV @iC_in)) (h0:=?_) (round:=fun v hI=>?_)
  · exact Nat.zero_le _
  · have hv : v ≤ ar.length := hI
    clear hI
    by_cases hlt : v < ar.length
    · have hltI : (v : Int) < ar.length := by omega
      have e0 := List.getElem?_eq_getElem hlt
      have e1 := llRows_get e0
      have hl := hLl _ (List.getElem_mem hlt)
      have hs2 := fun i x => hst v i _ x e0
      have hr2 := hrow v _ e0
      generalize ar[v] = l at *
      refine zR (zc @hltI (zc @e1 (zc @llRows_len (zc @iRows_len trivial)))) trivial trivial ?_
      refine AWp.loopS (α:=Nat) 41 (fun i=>[(2,.c (.ptr 0 0)),(5,.c (.ref 1 1 0 (2 * L.length) (2 * L.length))),(7,.c (.slice (iRows l) .none)),(14,.c (.slice (llRows ar) .none)),(15,.c (.int .i64 (ar.length : Int))),(16,.c (.int .i64 (v : Int))),(20,.c (.slice (iRows l) .none)),(21,.c (.int .i64 (l.length : Int))),(22,.c (.int .i64 (i : Int)))]) (fun i=>[.box [.int .i64 n, .slice (eRows es) .none, .slice (llRows ar) .none], .box (iC (tabI (2 * L.length) (gB L ar v i)))]) (fun i=>i ≤ l.length) (fun i=>l.length - i) (0) (hk:=Weak.headL 2 41 [2, 5, 7, 14, 15, 16, 20, 21, 22] (zV @iC_in)) (h0:=?_) (round:=fun i hI=>?_)
      · exact Nat.zero_le _
      · have hi : i ≤ l.length := hI
        clear hI
        by_cases hlt2 : i < l.length
        · have hlt2I : (i : Int) < l.length := by omega
          have f0 := List.getElem?_eq_getElem hlt2
          have f1 := iRows_get f0
          obtain ⟨⟨hx0, hx1⟩, y, hy, hset⟩ := hs2 i _ f0
          have f2 := iRows_get hy
          have hml : (i + 1) % l.length < l.length := Nat.mod_lt _ (by omega)
          have hmlI : (((i + 1) % l.length : Nat) : Int) < l.length := by omega
          have htl := tabI_len (2 * L.length) (gB L ar v i)
          generalize l[i] = x at *
          obtain ⟨x, rfl⟩ := Int.eq_ofNat_of_zero_le hx0
          rw [Int.toNat_natCast] at hset
          have htm := tmodn i l.length
          generalize hB : tabI (2 * L.length) (gB L ar v (i + 1)) = B2 at *
          generalize tabI (2 * L.length) (gB L ar v i) = B at *
          generalize (i + 1) % l.length = q at *
          refine zR (zc @hlt2I (zc @f1 (zc @f2 (zc @iRows_len (zc @htm (zc @hmlI (zc @hx1 (zc @iC_len (zc @htl (zc @iC_set (zc @hset trivial))))))))))) trivial trivial ?_
          refine ⟨i + 1,Weak.headF 2 41 [2, 5, 7, 14, 15, 16, 20, 21, 22] (zc @hB trivial) (zV @iC_in),?_,?_⟩
          · exact hlt2
          · omega
        · have ei : i = l.length := by omega
          subst ei
          have hnl : ¬ ((l.length : Int) < l.length) := by omega
          rw [hr2]
          refine zR (zc @hnl trivial) trivial trivial ?_
          refine ⟨v + 1,Weak.headN 2 41 [2, 5, 14, 15, 16] (zV @iC_in),?_,?_⟩
          · exact hlt
          · omega
    · have ev : v = ar.length := by omega
      subst ev
      have hnl : ¬ ((ar.length : Int) < ar.length) := by omega
      rw [hall]
      have htl := tabI_len (2 * L.length) (nextR L ar)
      generalize tabI (2 * L.length) (nextR L ar) = B at *
      repeat' ((fail_if_success (with_reducible refine AWp.atSeq 11 ?_));(fail_if_success (with_reducible refine AWp.atLast 11 ?_));first|((first|(refine zT ?_;intro K' hK')|(refine zG ?_ ?_<;>(try refine zH ?_)<;>intro hguard<;>(try exact zX)<;>try intro K' hK'))<;>((try simp +contextual only [go_sem, hnl]);(repeat' first|(with_reducible refine hK' _ _ ?_;clear hK' K')|exact zY|with_reducible refine And.intro ?_ ?_|(with_reducible intro hpath;try exact zP)|(refine hK' _ _ ?_;clear hK' K')|fail);try refine zS ?_))|(refine zE ?_;refine hK _ _ ?_;clear hK K)|(refine zN ?_;try refine zS ?_)|refine zA ?_|(refine zB ?_;intro K hK)|(refine zC ?_ ?_<;>(try refine zH ?_)<;>intro hcond<;>try exact zX)|fail)
      refine AWp.freezeR 5 1 1 (2 * L.length) (2 * L.length) rfl rfl (iC_trees _) (iRows B) (by rw [iRows_len, htl]) (Nat.le_refl _) (fun r hr => iRows_k' hr) (iRows_pre _) ?_
      simp only [List.set_cons_succ, List.set_cons_zero]
      refine zR trivial trivial trivial ?_
      simp [Rets, aret, Blk.cells, ty, Tryz.results72, ares, toT1, toT, borrow, borrow0, capCell, toTree0, tints]
end Go.Proofs.YtfkegnhpihoncaaGreat
set_option linter.all false
namespace Go.Proofs.YtfkegnhpihoncaaGreat
open Go.Sp
set_option linter.unusedSimpArgs false
set_option linter.unusedVariables false
set_option maxHeartbeats 4000000
set_option maxRecDepth 100000
theorem rCheck_ok (r : R) (hr : RSm r) : ACall Tryz.prog 30 [tR r] (tint (ribE r)) := by
  have h := rchecked_ok r hr
  generalize (if ribE r ≠ 0 then [] else endsL r.es) = L at *
  generalize ribE r = E at *
  obtain ⟨n, es, ar⟩ := r
  refine ACall.of_body Tryz.func30 rfl (by kernel_rfl) ?_
  simp only [entry, Tryz.ntmps30, tR]
  refine zU ?_
  refine zR trivial (zc h trivial) trivial ?_
  simp [Rets, aret, Blk.cells, ty, Tryz.results30, ares, toT1, toT, borrow, borrow0, capCell, toTree0, tint]
def halfE (r : R) (h : Int) : Int := if ribE r ≠ 0 then ribE r else if h < 0 ∨ 2 * ((endsL r.es).length : Int) ≤ h then 2 else 0
theorem CloneE_ok (l : List E) (hne : l ≠ []) (hl : l.length < 2 ^ 30) : ACall Tryz.prog 107 [.t (.slice (eRows l))] (.t (.slice (eRows l))) := by
  have hrn : eRows l ≠ [] := by simpa [eRows] using hne
  have hrl : (eRows l).length = l.length := eRows_len l
  have hrk : ∀ r, r ∈ eRows l → r.length = 3 := fun r hr => eRows_k' hr
  refine ACall.of_body Tryz.func107 rfl (by kernel_rfl) ?_
  simp only [entry, Tryz.ntmps107]
  refine zU ?_
  generalize eRows l = rows at *
  repeat' (first|((first|(refine zT ?_;intro K' hK')|(refine zG ?_ ?_<;>(try refine zH ?_)<;>intro hguard<;>(try exact zX)<;>try intro K' hK'))<;>((try simp +contextual only [go_sem, hrl, chunks, List.range, List.range.loop]);(repeat' first|(with_reducible refine hK' _ _ ?_;clear hK' K')|(exact hrn)|(with_reducible exact hrk _ (by assumption))|(exact .inr True.intro)|exact zY|with_reducible refine And.intro ?_ ?_|(with_reducible intro hpath;try exact zP)|(refine hK' _ _ ?_;clear hK' K')|fail);try refine zS ?_))|(refine zE ?_;refine hK _ _ ?_;clear hK K)|(refine zN ?_;try refine zS ?_)|refine zA ?_|(refine zB ?_;intro K hK)|(refine zC ?_ ?_<;>(try refine zH ?_)<;>intro hcond<;>try exact zX)|fail)
  simp [Rets, aret, Blk.cells, ty, Tryz.results107, ares, toT1, toT, borrow, borrow0, capCell, toTree0]
theorem CloneE_none : ACall Tryz.prog 107 [.t (.slice [])] (.t (.slice [])) := by
  refine ACall.of_body Tryz.func107 rfl (by kernel_rfl) ?_
  simp only [entry, Tryz.ntmps107]
  refine zU ?_
  repeat' (first|((with_reducible refine AWp.seq (AWp.of_reg (id:=1) (AReg.pre 1 (fun K hK=>?_))));simp only [List.take_succ_cons,List.take_zero])|((with_reducible refine AWp.of_reg (id:=1) (AReg.pre 1 (fun K hK=>?_)));simp only [List.take_succ_cons,List.take_zero])|((first|(refine zT ?_;intro K' hK')|(refine zG ?_ ?_<;>(try refine zH ?_)<;>intro hguard<;>(try exact zX)<;>try intro K' hK'))<;>((try simp +contextual only [go_sem]);(repeat' first|(with_reducible refine hK' _ _ ?_;clear hK' K')|exact zY|with_reducible refine And.intro ?_ ?_|(with_reducible intro hpath;try exact zP)|(refine hK' _ _ ?_;clear hK' K')|fail);try refine zS ?_))|(refine zE ?_;refine hK _ _ ?_;clear hK K)|(refine zN ?_;try refine zS ?_)|refine zA ?_|(refine zB ?_;intro K hK)|(refine zC ?_ ?_<;>(try refine zH ?_)<;>intro hcond<;>try exact zX)|fail)
  simp only [List.drop_succ_cons, List.drop_zero]
  refine AReg.nilq (e := 76) false rfl rfl rfl (by simp only [ty]) rfl rfl (fun b => AReg.rest (fun K hK => ?_))
  cases b
  ·
    repeat' (first|((first|(refine zT ?_;intro K' hK')|(refine zG ?_ ?_<;>(try refine zH ?_)<;>intro hguard<;>(try exact zX)<;>try intro K' hK'))<;>((try simp +contextual only [go_sem, List.length_nil, chunks, List.range, List.range.loop, List.map_nil]);(repeat' first|(with_reducible refine hK' _ _ ?_;clear hK' K')|(exact .inr True.intro)|(exact absurd True.intro (by assumption))|exact zY|with_reducible refine And.intro ?_ ?_|(with_reducible intro hpath;try exact zP)|(refine hK' _ _ ?_;clear hK' K')|fail);try refine zS ?_))|(refine zE ?_;refine hK _ _ ?_;clear hK K)|(refine zN ?_;try refine zS ?_)|refine zA ?_|(refine zB ?_;intro K hK)|(refine zC ?_ ?_<;>(try refine zH ?_)<;>intro hcond<;>try exact zX)|fail)
    simp [Rets, aret, Blk.cells, ty, Tryz.results107, ares, toT1, toT, borrow, borrow0, capCell, toTree0]
  ·
    repeat' (first|((first|(refine zT ?_;intro K' hK')|(refine zG ?_ ?_<;>(try refine zH ?_)<;>intro hguard<;>(try exact zX)<;>try intro K' hK'))<;>((try simp +contextual only [go_sem]);(repeat' first|(with_reducible refine hK' _ _ ?_;clear hK' K')|exact zY|with_reducible refine And.intro ?_ ?_|(with_reducible intro hpath;try exact zP)|(refine hK' _ _ ?_;clear hK' K')|fail);try refine zS ?_))|(refine zE ?_;refine hK _ _ ?_;clear hK K)|(refine zN ?_;try refine zS ?_)|refine zA ?_|(refine zB ?_;intro K hK)|(refine zC ?_ ?_<;>(try refine zH ?_)<;>intro hcond<;>try exact zX)|fail)
    simp [Rets, aret, Blk.cells, ty, Tryz.results107, ares, toT1, toT, borrow, borrow0, capCell, toTree0]
theorem copied_ok (g : G) (hl : g.es.length ≤ 40) : ACall Tryz.prog 63 [tG g] (tG g) := by
  obtain ⟨n, es⟩ := g
  simp only at hl
  by_cases he : es = []
  · subst he
    have hN := CloneE_none
    refine ACall.of_body Tryz.func63 rfl (by kernel_rfl) ?_
    simp only [entry, Tryz.ntmps63, tG, eRows]
    refine zU ?_
    refine zR trivial (zc hN trivial) trivial ?_
    simp [Rets, aret, Blk.cells, ty, Tryz.results63, ares, toT1, toT, borrow, borrow0, capCell, toTree0, tG, eRows]
  · have hC := CloneE_ok es he (by omega)
    refine ACall.of_body Tryz.func63 rfl (by kernel_rfl) ?_
    simp only [entry, Tryz.ntmps63, tG]
    refine zU ?_
    refine zR trivial (zc hC trivial) trivial ?_
    simp [Rets, aret, Blk.cells, ty, Tryz.results63, ares, toT1, toT, borrow, borrow0, capCell, toTree0, tG]
theorem rDefault_ok (g : G) (hl : g.es.length ≤ 40) : ACall Tryz.prog 28 [tG g] (.tup [tR (if joinedE g ≠ 0 then ⟨0, [], []⟩ else ⟨g.n, g.es, halvesL (endsL g.es) g.n.toNat (2 * (endsL g.es).length)⟩), tint (joinedE g)]) := by
  have hJ := rjoined_ok g hl
  have hC := copied_ok g hl
  by_cases hj : joinedE g = 0
  case neg =>
    rw [if_pos hj]
    have hL : ∃ L, (if checkG g ≠ 0 then [] else endsL g.es) = L := ⟨_, rfl⟩
    obtain ⟨L, hL⟩ := hL
    rw [hL] at hJ
    generalize joinedE g = E at *
    obtain ⟨n, es⟩ := g
    refine ACall.of_body Tryz.func28 rfl (by kernel_rfl) ?_
    simp only [entry, Tryz.ntmps28, tG]
    refine zU ?_
    refine zR (zc @hj trivial) (zc hJ trivial) trivial ?_
    simp [Rets, aret, Blk.cells, ty, Tryz.results28, ares, toT1, toT, borrow, borrow0, capCell, toTree0, tint, tR, eRows, llRows]
  have hc : checkG g = 0 := by
    unfold joinedE at hj
    by_cases h : checkG g = 0
    · exact h
    · rw [if_pos h] at hj; exact absurd hj h
  have h12 := (checkG_zero.1 hc).1
  have hlen := ends_len hl hc
  rw [if_neg (by omega), hj] at hJ
  rw [if_neg (by omega), hj]
  have hat : ∀ h, h < 2 * (endsL g.es).length → 0 ≤ atL (endsL g.es) h ∧ atL (endsL g.es) h < (g.n.toNat : Nat) := fun h hh => by
    have := atL_range (r := ⟨g.n, g.es, []⟩) hc hh
    have h1 : (⟨g.n, g.es, []⟩ : R).n = g.n := rfl
    have h2 : (⟨g.n, g.es, []⟩ : R).es = g.es := rfl
    rw [h1, h2] at this
    omega
  have hH := halves_ok (endsL g.es) g.n.toNat (by omega) (by omega) hat
  rw [show ((g.n.toNat : Nat) : Int) = g.n by omega] at hH
  clear hat hc hj
  obtain ⟨n, es⟩ := g
  simp only at hH hJ ⊢
  generalize halvesL (endsL es) n.toNat (2 * (endsL es).length) = hs at *
  generalize endsL es = L at *
  refine ACall.of_body Tryz.func28 rfl (by kernel_rfl) ?_
  simp only [entry, Tryz.ntmps28, tG]
  refine zU ?_
  refine zR trivial (zc hJ (zc hC (zc hH trivial))) trivial ?_
  simp [Rets, aret, Blk.cells, ty, Tryz.results28, ares, toT1, toT, borrow, borrow0, capCell, toTree0, tint, tR]
end Go.Proofs.YtfkegnhpihoncaaGreat
