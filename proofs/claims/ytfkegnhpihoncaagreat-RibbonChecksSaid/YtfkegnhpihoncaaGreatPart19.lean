/- A part of the proof: contracts of functions of the program, and plain lemmas. -/
import Derived.Test.YtfkegnhpihoncaaGreatPart15
import Derived.Test.YtfkegnhpihoncaaGreatPart16
import Derived.Test.YtfkegnhpihoncaaGreatPart18
import Derived.Test.YtfkegnhpihoncaaGreatLayerC
import Derived.Test.YtfkegnhpihoncaaGreatPart03
import Derived.Test.YtfkegnhpihoncaaGreatPart06
set_option linter.all false
namespace Go.Proofs.YtfkegnhpihoncaaGreat
open Go.Sp
set_option linter.unusedSimpArgs false
set_option linter.unusedVariables false
set_option maxHeartbeats 4000000
set_option maxRecDepth 100000
theorem mirL_snoc {ar : List (List Int)} {i : Nat} {l : List Int} (h : ar[i]? = some l) : mirL (ar.take (i + 1)) = mirL (ar.take i) ++ [turnL l.reverse] := by
  have hi := (List.getElem?_eq_some_iff.1 h).1
  have he := (List.getElem?_eq_some_iff.1 h).2
  unfold mirL
  rw [List.take_succ_eq_append_getElem hi, he, List.map_append]; rfl
theorem mirL_len (ar : List (List Int)) : (mirL ar).length = ar.length := by simp [mirL]
theorem rMirror_ok (r : R) (hr : RSm r) : ACall Tryz.prog 27 [tR r] (.tup [tR (if ribE r ≠ 0 then ⟨0, [], []⟩ else ⟨r.n, r.es, mirL r.ar⟩), tint (ribE r)]) := by
  have hC := rCheck_ok r hr
  by_cases he : ribE r = 0
  case neg =>
    rw [if_pos he]
    generalize ribE r = E at *
    obtain ⟨n, es, ar⟩ := r
    refine ACall.of_body Tryz.func27 rfl (by kernel_rfl) ?_
    simp only [entry, Tryz.ntmps27, tR]
    refine zU ?_
    refine zR (zc @he trivial) (zc hC trivial) trivial ?_
    simp [Rets, aret, Blk.cells, ty, Tryz.results27, ares, toT1, toT, borrow, borrow0, capCell, toTree0, tint, tR, eRows, llRows]
  rw [if_neg (by omega), he]
  rw [he] at hC
  have hCp := copied_ok r.g hr.es
  have hLl := hr.l
  have hA := hr.ar
  clear he hr
  obtain ⟨n, es, ar⟩ := r
  simp only [R.g] at hCp hLl hA ⊢
  refine ACall.of_body Tryz.func27 rfl (by kernel_rfl) ?_
  simp only [entry, Tryz.ntmps27, tR]
  refine zU ?_
  repeat' ((fail_if_success (with_reducible refine AWp.atSeq 5 ?_));(fail_if_success (with_reducible refine AWp.atLast 5 ?_));first|((first|(refine zT ?_;intro K' hK')|(refine zG ?_ ?_<;>(try refine zH ?_)<;>intro hguard<;>(try exact zX)<;>try intro K' hK'))<;>((try simp +contextual only [go_sem]);(repeat' first|(with_reducible refine hK' _ _ ?_;clear hK' K')|((with_reducible first|refine zK hC ?_|refine zK hCp ?_);try simp +contextual only [go_sem])|exact zY|with_reducible refine And.intro ?_ ?_|(with_reducible intro hpath;try exact zP)|(refine hK' _ _ ?_;clear hK' K')|fail);try refine zS ?_))|(refine zE ?_;refine hK _ _ ?_;clear hK K)|(refine zN ?_;try refine zS ?_)|refine zA ?_|(refine zB ?_;intro K hK)|(refine zC ?_ ?_<;>(try refine zH ?_)<;>intro hcond<;>try exact zX)|fail)
  refine AWp.weak (Weak.openB 2 2 1 rfl rfl (by omega)) ?_
  simp only [List.set_cons_succ, List.set_cons_zero, List.length_cons, List.length_nil, List.length_append, Nat.reduceAdd, List.cons_append, List.nil_append]
  refine zR (zc @llRows_len trivial) trivial trivial ?_
  refine AWp.loopS (α:=Nat) 39 (fun i=>[(2,.c (.ptr 1 0)),(5,.c (.ptr 2 0)),(20,.c (.slice (llRows ar) .none)),(21,.c (.int .i64 (ar.length : Int))),(22,.c (.int .i64 (i : Int)))]) (fun i=>[.box [.int .i64 n, .slice (eRows es) .none, .slice (llRows ar) .none], .box [.int .i64 0, .nils, .nils], .box [.int .i64 n, .slice (eRows es) .none, .slice (llRows (mirL (ar.take i))) (.chain 3)], .chain (mirL (ar.take i)).length 1]) (fun i=>i ≤ ar.length) (fun i=>ar.length - i) (0) (hk:=Weak.headL 4 39 [2, 5, 20, 21, 22] zW) (h0:=?_) (round:=fun i hI=>?_)
  · exact Nat.zero_le _
  · have hi : i ≤ ar.length := hI
    clear hI
    have hml : (mirL (ar.take i)).length = i := by rw [mirL_len, List.length_take]; omega
    by_cases hlt : i < ar.length
    · have hltI : (i : Int) < ar.length := by omega
      have e0 := List.getElem?_eq_getElem hlt
      have e1 := llRows_get e0
      have hl := hLl _ (List.getElem_mem hlt)
      have hsn := mirL_snoc e0
      have hml2 : (mirL (ar.take (i + 1))).length = i + 1 := by rw [mirL_len, List.length_take]; omega
      generalize ar[i] = l at *
      by_cases hne : l = []
      · subst hne
        have hT := turned_ok [] (by simp)
        rw [List.reverse_nil] at hsn
        generalize hM2 : mirL (ar.take (i + 1)) = M2 at *
        generalize mirL (ar.take i) = M at *
        repeat' (first|((first|(refine zT ?_;intro K' hK')|(refine zG ?_ ?_<;>(try refine zH ?_)<;>intro hguard<;>(try exact zX)<;>try intro K' hK'))<;>((try simp +contextual only [go_sem, hltI, e1, llRows_len, Int.toNat_natCast, hml, chunks, List.range, List.range.loop, llRows_snoc, ← hsn]);(repeat' first|(with_reducible refine hK' _ _ ?_;clear hK' K')|((with_reducible first|refine zK CloneI_none ?_|refine zK ReverseI_none ?_|refine zK hT ?_);try simp +contextual only [go_sem, hltI, e1, llRows_len, Int.toNat_natCast, hml, chunks, List.range, List.range.loop, llRows_snoc, ← hsn])|(with_reducible exact llRows_k' (by assumption))|exact zY|with_reducible refine And.intro ?_ ?_|(with_reducible intro hpath;try exact zP)|(refine hK' _ _ ?_;clear hK' K')|fail);try refine zS ?_))|(refine zE ?_;refine hK _ _ ?_;clear hK K)|(refine zN ?_;try refine zS ?_)|refine zA ?_|(refine zB ?_;intro K hK)|(refine zC ?_ ?_<;>(try refine zH ?_)<;>intro hcond<;>try exact zX)|fail)
        refine ⟨i + 1,Weak.headF 4 39 [2, 5, 20, 21, 22] (zc @hM2 (zc @hml2 (zc @hml (zc @hsn (zc @turnL_nil trivial))))) zW,?_,?_⟩
        · exact hlt
        · omega
      · have hT := turned_ok l.reverse (by rw [List.length_reverse]; omega)
        generalize hM2 : mirL (ar.take (i + 1)) = M2 at *
        generalize mirL (ar.take i) = M at *
        have hCl : ACallH Tryz.prog 64 [.box [.int .i64 n, .slice (eRows es) .none, .slice (llRows ar) .none], .box [.int .i64 0, .nils, .nils], .box [.int .i64 n, .slice (eRows es) .none, .slice (llRows M) (.chain 3)], .chain M.length 1] [.c (.slice (iRows l) .none)] [.box [.int .i64 n, .slice (eRows es) .none, .slice (llRows ar) .none], .box [.int .i64 0, .nils, .nils], .box [.int .i64 n, .slice (eRows es) .none, .slice (llRows M) (.chain 3)], .chain M.length 1, .box (iC l)] (.c (.ref 4 1 0 l.length l.length)) := by
          have := (CloneI_ok l hne (by omega)).h (H := [.box [.int .i64 n, .slice (eRows es) .none, .slice (llRows ar) .none], .box [.int .i64 0, .nils, .nils], .box [.int .i64 n, .slice (eRows es) .none, .slice (llRows M) (.chain 3)], .chain M.length 1]) (args := [.c (.slice (iRows l) .none)]) (by with_unfolding_all rfl)
          rw [iRows_len, flat_iRows] at this
          exact this
        have hRv := ReverseI_ok l (by omega) [.box [.int .i64 n, .slice (eRows es) .none, .slice (llRows ar) .none], .box [.int .i64 0, .nils, .nils], .box [.int .i64 n, .slice (eRows es) .none, .slice (llRows M) (.chain 3)], .chain M.length 1] (by
          intro b hb
          simp only [List.mem_cons, List.not_mem_nil, or_false] at hb
          rcases hb with rfl | rfl | rfl | rfl
          · intro c hc
            simp only [List.mem_cons, List.not_mem_nil, or_false] at hc
            rcases hc with rfl | rfl | rfl <;> exact True.intro
          · intro c hc
            simp only [List.mem_cons, List.not_mem_nil, or_false] at hc
            rcases hc with rfl | rfl | rfl <;> exact True.intro
          · intro c hc
            simp only [List.mem_cons, List.not_mem_nil, or_false] at hc
            rcases hc with rfl | rfl | rfl
            · exact True.intro
            · exact True.intro
            · show 3 < _; simp
          · exact True.intro)
        simp only [List.cons_append, List.nil_append, List.length_cons, List.length_nil, Nat.zero_add, Nat.reduceAdd] at hRv
        repeat' ((fail_if_success (with_reducible refine AWp.atSeq 10 ?_));(fail_if_success (with_reducible refine AWp.atLast 10 ?_));first|((first|(refine zT ?_;intro K' hK')|(refine zG ?_ ?_<;>(try refine zH ?_)<;>intro hguard<;>(try exact zX)<;>try intro K' hK'))<;>((try simp +contextual only [go_sem, hltI, e1, llRows_len, Int.toNat_natCast]);(repeat' first|(with_reducible refine hK' _ _ ?_;clear hK' K')|((with_reducible first|refine ⟨_,_,hCl,?_⟩|refine ⟨_,hCl,?_⟩|refine ⟨_,_,hRv,?_⟩|refine ⟨_,hRv,?_⟩);try simp +contextual only [go_sem, hltI, e1, llRows_len, Int.toNat_natCast])|exact zY|with_reducible refine And.intro ?_ ?_|(with_reducible intro hpath;try exact zP)|(refine hK' _ _ ?_;clear hK' K')|fail);try refine zS ?_))|(refine zE ?_;refine hK _ _ ?_;clear hK K)|(refine zN ?_;try refine zS ?_)|refine zA ?_|(refine zB ?_;intro K hK)|(refine zC ?_ ?_<;>(try refine zH ?_)<;>intro hcond<;>try exact zX)|fail)
        refine AWp.freezeR 8 4 1 l.length l.length rfl rfl (iC_trees _) (iRows l.reverse) (by rw [iRows_len, List.length_reverse]) (Nat.le_refl _) (fun r hr => iRows_k' hr) (iRows_pre _) ?_
        simp only [List.set_cons_succ, List.set_cons_zero]
        repeat' (first|((first|(refine zT ?_;intro K' hK')|(refine zG ?_ ?_<;>(try refine zH ?_)<;>intro hguard<;>(try exact zX)<;>try intro K' hK'))<;>((try simp +contextual only [go_sem, hltI, llRows_len, Int.toNat_natCast, hml, chunks, List.range, List.range.loop, llRows_snoc, ← hsn]);(repeat' first|(with_reducible refine hK' _ _ ?_;clear hK' K')|(with_reducible refine zK hT ?_;try simp +contextual only [go_sem, hltI, llRows_len, Int.toNat_natCast, hml, chunks, List.range, List.range.loop, llRows_snoc, ← hsn])|(with_reducible exact llRows_k' (by assumption))|exact zY|with_reducible refine And.intro ?_ ?_|(with_reducible intro hpath;try exact zP)|(refine hK' _ _ ?_;clear hK' K')|fail);try refine zS ?_))|(refine zE ?_;refine hK _ _ ?_;clear hK K)|(refine zN ?_;try refine zS ?_)|refine zA ?_|(refine zB ?_;intro K hK)|(refine zC ?_ ?_<;>(try refine zH ?_)<;>intro hcond<;>try exact zX)|fail)
        refine ⟨i + 1,Weak.headF 4 39 [2, 5, 20, 21, 22] (zc @hM2 (zc @hml2 (zc @hml (zc @hsn trivial)))) zW,?_,?_⟩
        · exact hlt
        · omega
    · have ei : i = ar.length := by omega
      subst ei
      rw [List.take_length] at *
      have hnl : ¬ ((ar.length : Int) < ar.length) := by omega
      refine zR (zc @hnl trivial) trivial trivial ?_
      simp [Rets, aret, Blk.cells, ty, Tryz.results27, ares, toT1, toT, borrow, borrow0, capCell, toTree0, tint, tR]
end Go.Proofs.YtfkegnhpihoncaaGreat
set_option linter.all false
namespace Go.Proofs.YtfkegnhpihoncaaGreat
open Go.Sp
set_option linter.unusedSimpArgs false
set_option linter.unusedVariables false
set_option maxHeartbeats 4000000
set_option maxRecDepth 100000
def pC (l : List (Int × Int)) : List ACell := l.flatMap fun p => [.int .i64 p.1, .int .i64 p.2]
theorem pC_cons (p : Int × Int) (l : List (Int × Int)) : pC (p :: l) = .int .i64 p.1 :: .int .i64 p.2 :: pC l := rfl
theorem pC_len (l : List (Int × Int)) : (pC l).length = l.length * 2 := by
  induction l with
  | nil => rfl
  | cons p l ih => rw [pC_cons]; simp only [List.length_cons, ih]; omega
theorem pC_set : ∀ (l : List (Int × Int)) (i : Nat) (x y : Int), ((pC l).set (i * 2) (.int .i64 x)).set (i * 2 + 1) (.int .i64 y) = pC (l.set i (x, y)) := by
  intro l
  induction l with
  | nil => intro i x y; rfl
  | cons q l ih =>
    intro i x y
    cases i with
    | zero => rfl
    | succ i =>
      rw [show (i + 1) * 2 = i * 2 + 1 + 1 by omega, pC_cons]
      simp only [List.set_cons_succ, ih, pC_cons]
theorem pC_in {m : Nat} {l : List (Int × Int)} : blkIn m (.box (pC l)) := by
  intro c hc
  obtain ⟨p, _, hp⟩ := List.mem_flatMap.1 hc
  simp only [List.mem_cons, List.not_mem_nil, or_false] at hp
  rcases hp with rfl | rfl <;> exact True.intro
def pT (l : List (Int × Int)) : List Tree := l.flatMap fun p => [.int .i64 p.1, .int .i64 p.2]
theorem pC_trees (l : List (Int × Int)) : (pC l).mapM toTree0 = some (pT l) := by
  induction l with
  | nil => rfl
  | cons p l ih => rw [pC_cons]; simp [List.mapM_cons, toTree0, ih, pT]
theorem pRows_pre : ∀ (l : List (Int × Int)) (i : Nat) (r : List Tree) (m : Nat) (x : Tree), (pRows l)[i]? = some r → r[m]? = some x → (pT l)[i * 2 + m]? = some x := by
  intro l
  induction l with
  | nil => intro i r m x h; simp [pRows] at h
  | cons p l ih =>
    intro i r m x h1 h2
    have hm : m < 2 := by
      have h3 : r.length = 2 := pRows_k' (List.mem_of_getElem? h1)
      have := (List.getElem?_eq_some_iff.1 h2).1
      omega
    have e : pT (p :: l) = .int .i64 p.1 :: .int .i64 p.2 :: pT l := rfl
    cases i with
    | zero =>
      simp [pRows, pRow] at h1
      subst h1
      rw [e]
      match m, hm with
      | 0, _ => simpa using h2
      | 1, _ => simpa using h2
    | succ i =>
      rw [e, show (i + 1) * 2 + m = i * 2 + m + 1 + 1 by omega]
      simp only [List.getElem?_cons_succ]
      exact ih i r m x (by simpa [pRows] using h1) h2
def swapR (l : List (Int × Int)) : Nat → List (Int × Int)
  | 0 => l
  | i + 1 => ((swapR l i).set i ((swapR l i)[l.length - 1 - i]?.getD (0, 0))).set (l.length - 1 - i) ((swapR l i)[i]?.getD (0, 0))
end Go.Proofs.YtfkegnhpihoncaaGreat
set_option linter.all false
namespace Go.Proofs.YtfkegnhpihoncaaGreat
open Go.Sp
set_option linter.unusedSimpArgs false
set_option linter.unusedVariables false
set_option maxHeartbeats 4000000
set_option maxRecDepth 100000
def ofF (r : R) (x : Nat) : Int := ofN (fR (endsL r.es) r.ar) (2 * (endsL r.es).length) (2 * (endsL r.es).length) x
def joinsR (r : R) : List (Int × Int) := (List.range (endsL r.es).length).map fun i => (ofF r (2 * i), ofF r (2 * i + 1))
noncomputable def dualM (r : R) : G × Int := makeE (facesR r).length (joinsR r)
noncomputable def dualE (r : R) : Int := if ribE r ≠ 0 then ribE r else if 12 < (facesR r).length then 5 else (dualM r).2
def dualH (O N : List Int) (x : Int) : Int :=
  2 * N.getD (x.toNat / 2) 0 + (if O.getD (oppH x.toNat) 0 < O.getD x.toNat 0 ∨ (O.getD x.toNat 0 = O.getD (oppH x.toNat) 0 ∧ x.toNat % 2 = 1) then 1 else 0)
def dualAr (r : R) : List (List Int) := (facesI r).map fun l => turnL (l.map (dualH (tabI (2 * (endsL r.es).length) (ofF r)) (numI (joinsR r))))
noncomputable def dualD (r : R) : R := if dualE r ≠ 0 then ⟨0, [], []⟩ else ⟨(dualM r).1.n, (dualM r).1.es, dualAr r⟩
noncomputable def dualN (r : R) : List Int := if dualE r ≠ 0 then [] else numI (joinsR r)
theorem joinsR_len (r : R) : (joinsR r).length = (endsL r.es).length := by simp [joinsR]
theorem numI_len (L : List (Int × Int)) : (numI L).length = L.length := tabI_len _ _
theorem numI_range (L : List (Int × Int)) {v : Int} (h : v ∈ numI L) : 0 ≤ v ∧ v ≤ L.length := by
  obtain ⟨e, _, rfl⟩ := List.mem_map.1 h
  refine ⟨by omega, ?_⟩
  have := List.length_filter_le (fun f => decide (ltN L f e)) (List.range L.length)
  rw [List.length_range] at this
  omega
def jK (O : List Int) (m k : Nat) : List (Int × Int) := (List.range m).map fun i => if i < k then (O.getD (2 * i) 0, O.getD (2 * i + 1) 0) else (0, 0)
theorem jK_len (O : List Int) (m k : Nat) : (jK O m k).length = m := by simp [jK]
theorem jK_get {O : List Int} {m k i : Nat} (h : i < m) : (jK O m k)[i]? = some (if i < k then (O.getD (2 * i) 0, O.getD (2 * i + 1) 0) else (0, 0)) := by simp [jK, h]
theorem jK_step {O : List Int} {m k : Nat} (hk : k < m) : (jK O m k).set k (O.getD (2 * k) 0, O.getD (2 * k + 1) 0) = jK O m (k + 1) := by
  apply List.ext_getElem?
  intro i
  by_cases hi : i < m
  · rw [jK_get hi]
    by_cases e : k = i
    · subst e
      rw [List.getElem?_set_self (by rw [jK_len]; exact hk), if_pos (by omega)]
    · rw [List.getElem?_set_ne e, jK_get hi]
      by_cases h1 : i < k
      · rw [if_pos h1, if_pos (by omega)]
      · rw [if_neg h1, if_neg (by omega)]
  · rw [List.getElem?_eq_none (by rw [List.length_set, jK_len]; omega), List.getElem?_eq_none (by rw [jK_len]; omega)]
theorem made_pairs : ∀ m : Nat, madeA [ACell.int .i64 0, ACell.int .i64 0] m = pC (List.replicate m (0, 0))
  | 0 => rfl
  | m + 1 => by
    have ih := made_pairs m
    unfold madeA pC at ih ⊢
    rw [List.replicate_succ, List.replicate_succ, List.flatten_cons, List.flatMap_cons, ih]
theorem jK_zero (O : List Int) (m : Nat) : madeA [ACell.int .i64 0, ACell.int .i64 0] m = pC (jK O m 0) := by
  have e : jK O m 0 = List.replicate m (0, 0) := by
    unfold jK
    rw [List.eq_replicate_iff]
    exact ⟨by simp, fun x hx => by obtain ⟨i, _, rfl⟩ := List.mem_map.1 hx; rw [if_neg (by omega)]⟩
  rw [e]; exact made_pairs m
theorem jK_all (r : R) : jK (tabI (2 * (endsL r.es).length) (ofF r)) (endsL r.es).length (endsL r.es).length = joinsR r := by
  unfold jK joinsR
  refine List.map_congr_left fun i hi => ?_
  have hi' := List.mem_range.1 hi
  rw [if_pos hi', List.getD_eq_getElem?_getD, tabI_get _ (by omega), List.getD_eq_getElem?_getD, tabI_get _ (by omega)]; rfl
theorem facesI_mem {r : R} (hr : ROk r) {l : List Int} (hl : l ∈ facesI r) {x : Int} (hx : x ∈ l) : 0 ≤ x ∧ x < 2 * ((endsL r.es).length : Int) := by
  unfold facesI facesR at hl
  obtain ⟨a, ha, rfl⟩ := List.mem_map.1 hl
  obtain ⟨b, hb, rfl⟩ := List.mem_map.1 hx
  split at ha
  · simp at ha; subst ha; cases hb
  · obtain ⟨c, hc, rfl⟩ := List.mem_map.1 ha
    have h1 := (leadsL_mem.1 hc).1
    have := face_lt hr.perm h1 hb
    omega
theorem facesI_short {r : R} (hr : ROk r) {l : List Int} (hl : l ∈ facesI r) : l.length ≤ 2 * (endsL r.es).length := by
  unfold facesI facesR at hl
  obtain ⟨a, ha, rfl⟩ := List.mem_map.1 hl
  rw [natI_len]
  split at ha
  · simp at ha; subst ha; simp
  · obtain ⟨c, hc, rfl⟩ := List.mem_map.1 ha
    exact face_len hr.perm (leadsL_mem.1 hc).1
end Go.Proofs.YtfkegnhpihoncaaGreat
