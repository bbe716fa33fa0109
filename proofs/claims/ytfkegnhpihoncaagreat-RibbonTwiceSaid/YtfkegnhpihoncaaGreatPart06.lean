/- A part of the proof: contracts of functions of the program, and plain lemmas. -/
import Derived.Test.YtfkegnhpihoncaaGreatPart05
import Derived.Test.YtfkegnhpihoncaaGreatLayerC
set_option linter.all false
namespace Go.Proofs.YtfkegnhpihoncaaGreat
open Go.Sp
set_option linter.unusedSimpArgs false
set_option linter.unusedVariables false
set_option maxHeartbeats 4000000
set_option maxRecDepth 100000
def kvE (e : E) : MKey × MV := (.ints [e.a, e.b], .c (.int .i64 e.m))
def mE (es : List E) : List (MKey × MV) := es.map kvE
theorem mE_len (es : List E) : (mE es).length = es.length := by simp [mE]
theorem mE_get {es : List E} {j : Nat} {e : MKey × MV} (h : (mE es)[j]? = some e) : ∃ x, es[j]? = some x ∧ e = kvE x := by
  simp only [mE, List.getElem?_map] at h
  cases hx : es[j]? with
  | none => simp [hx] at h
  | some x => simp [hx] at h; exact ⟨x, rfl, h.symm⟩
theorem mE_at {es : List E} {j : Nat} {x : E} (h : es[j]? = some x) : (mE es)[j]? = some (kvE x) := by simp [mE, h]
def pickL {α : Type} (l : List α) (seen : List Nat) : List α := seen.filterMap (l[·]?)
theorem pickL_snoc {α : Type} {l : List α} {seen : List Nat} {j : Nat} {x : α} (h : l[j]? = some x) : pickL l (seen ++ [j]) = pickL l seen ++ [x] := by
  simp [pickL, List.filterMap_append, h]
theorem pickL_len {α : Type} {l : List α} : ∀ {seen : List Nat}, (∀ j, j ∈ seen → j < l.length) → (pickL l seen).length = seen.length := by
  intro seen
  induction seen with
  | nil => intro _; rfl
  | cons j s ih =>
    intro h
    have hj := h j (by simp)
    have := ih fun i hi => h i (by simp [hi])
    simp only [pickL] at this ⊢
    rw [List.filterMap_cons, List.getElem?_eq_getElem hj]
    simp [this]
theorem pickL_range {α : Type} (l : List α) : pickL l (List.range l.length) = l := by
  apply List.ext_getElem?
  intro i
  have hlen : (pickL l (List.range l.length)).length = l.length := by rw [pickL_len (fun j hj => by simpa using hj)]; simp
  by_cases hi : i < l.length
  · have e : List.range l.length = List.range i ++ (i :: (List.range l.length).drop (i + 1)) := by
      conv => lhs; rw [← List.take_append_drop i (List.range l.length)]
      rw [List.take_range, Nat.min_eq_left (by omega), List.drop_eq_getElem_cons (by simpa using hi)]
      simp
    rw [e]
    simp only [pickL, List.filterMap_append, List.filterMap_cons, List.getElem?_eq_getElem hi]
    have h1 : (List.filterMap (fun x => l[x]?) (List.range i)).length = i := by
      have := pickL_len (l := l) (seen := List.range i) (fun j hj => by simp at hj; omega)
      simpa [pickL] using this
    rw [List.getElem?_append_right (by omega), h1]
    simp
  · rw [List.getElem?_eq_none (by omega), List.getElem?_eq_none (by omega)]
theorem pickL_perm {α : Type} {l : List α} {seen : List Nat} (h1 : seen.Nodup) (h2 : ∀ j, j ∈ seen → j < l.length) (h3 : ∀ j, j < l.length → j ∈ seen) : (pickL l seen).Perm l := by
  have hp : seen.Perm (List.range l.length) := (List.perm_ext_iff_of_nodup h1 List.nodup_range).2 fun j => by simp only [List.mem_range]; exact ⟨h2 j, h3 j⟩
  have := List.Perm.filterMap (l[·]?) hp
  have e := pickL_range l
  unfold pickL at e ⊢
  rw [e] at this; exact this
theorem nodup_len {n : Nat} {seen : List Nat} (h1 : seen.Nodup) (h2 : ∀ j, j ∈ seen → j < n) : seen.length ≤ n := by
  have := List.Nodup.length_le_of_subset h1 (l₂ := List.range n) (fun j hj => by simp; exact h2 j hj)
  simpa using this
theorem eRows_snoc (l : List E) (x : E) : eRows l ++ [[.int .i64 x.a, .int .i64 x.b, .int .i64 x.m]] = eRows (l ++ [x]) := by simp [eRows, eRow]
theorem eRows_k' {l : List E} {r : List Tree} (h : r ∈ eRows l) : r.length = 3 := by
  obtain ⟨x, _, rfl⟩ := List.mem_map.1 h; rfl
theorem mE_safe (es : List E) : safeB (.map (mE es)) := fun e he => by
  obtain ⟨x, _, rfl⟩ := List.mem_map.1 he; exact rfl
theorem mE_safe' (es : List E) : ∀ (a : MKey) (b : MV), (a, b) ∈ mE es → safeMV b := fun a b h => mE_safe es (a, b) h
theorem safe_all {l : List Blk} (h : ∀ b, b ∈ l → safeB b) (id : Nat) (blk : Blk) (hb : l[id]? = some blk) : safeB blk := h blk (List.mem_of_getElem? hb)
theorem maps1 (es : List (MKey × MV)) (l : List Blk) : ∀ id, id < 1 → ∃ es', (Blk.map es :: l)[id]? = some (.map es') := fun id h => by
  have : id = 0 := by omega
  subst this
  exact ⟨es, rfl⟩
theorem eRows_flat {l : List E} {r : List Tree} (h : r ∈ eRows l) : flatRow r = true := by
  obtain ⟨x, _, rfl⟩ := List.mem_map.1 h; rfl
theorem eRows_ref {l : List E} {n cap : Nat} (hn : l.length = n) (hc : n ≤ cap) : refRows (flatRows (eRows l)) 3 0 n cap = some (eRows l) := by
  have := refRows_flat (rows := eRows l) (k := 3) (cap := cap) (fun r hr => eRows_k' hr) (fun r hr => eRows_flat hr) (by rw [eRows_len]; omega)
  rwa [eRows_len, hn] at this
theorem graph_ok (n : Int) (es : List E) (hdis : distinctE es) (hl : es.length < 2 ^ 20) : ACallX Tryz.prog 99 [.map (mE es)] [.c (.map 0), .c (.int .i64 n)] (tG ⟨n, sortE es⟩) := by
  refine ACallX.of_body Tryz.func99 rfl (by kernel_rfl) (by simp [isMap]) ?_
  simp only [entry, Tryz.ntmps99, ofT, ofT1, ofTree, List.map_cons, List.map_nil, List.length_cons, List.length_nil, Nat.reduceAdd, Nat.reduceSub, List.replicate_succ, List.replicate_zero, List.cons_append, List.nil_append]
  refine FWp.seq ?_
  refine zR trivial trivial trivial ?_
  refine FWp.seq ?_
  refine zR trivial trivial trivial ?_
  refine FWp.seq ?_
  refine AWp.seq ?_
  refine zR trivial trivial trivial ?_
  refine AWp.weak (Weak.openB 2 1 3 rfl rfl (by omega)) ?_
  simp only [List.set_cons_succ, List.set_cons_zero, List.length_cons, List.length_nil, List.length_append, Nat.reduceAdd, List.cons_append, List.nil_append]
  refine AWp.loopS (α:=List Nat) 32 (fun seen=>[(0,.c (.map 0)),(1,.c (.int .i64 n)),(4,.c (.ptr 1 0)),(5,.c (.ptr 2 0)),(11,.c (.iter 3))]) (fun seen=>[.map (mE es), .box [.int .i64 0, .nils], .box [.int .i64 n, .slice (eRows (pickL es seen)) (.chain 4)], .iter 0 (mE es).length seen, .chain (pickL es seen).length 3]) (fun seen=>seen.Nodup ∧ ∀ j, j ∈ seen → j < es.length) (fun seen=>es.length - seen.length) ([]) (hk:=Weak.headL 5 32 [0, 1, 4, 5, 11] zW) (h0:=?_) (round:=fun seen hI=>?_)
  · exact ⟨List.nodup_nil, fun j hj => by cases hj⟩
  · obtain ⟨hn, hlt⟩ := hI
    have hsl := nodup_len hn hlt
    have hpl := pickL_len hlt
    refine AWp.seq_next rfl rfl rfl rfl rfl (fun hd K hK => ?_) (fun j e hj he K hK => ?_) <;> (try refine zS ?_)
    · have hperm : (pickL es seen).Perm es := pickL_perm hn hlt (fun j hj => hd j (by rw [mE_len]; exact hj))
      have hsort := sortE_congr hdis hperm
      repeat' (first|((first|(refine zT ?_;intro K' hK')|(refine zG ?_ ?_<;>(try refine zH ?_)<;>intro hguard<;>(try exact zX)<;>try intro K' hK'))<;>((try simp +contextual only [go_sem]);(repeat' first|(with_reducible refine hK' _ _ ?_;clear hK' K')|exact zY|with_reducible refine And.intro ?_ ?_|(with_reducible intro hpath;try exact zP)|(refine hK' _ _ ?_;clear hK' K')|fail);try refine zS ?_))|(refine zE ?_;refine hK _ _ ?_;clear hK K)|(refine zN ?_;try refine zS ?_)|refine zA ?_|(refine zB ?_;intro K hK)|(refine zC ?_ ?_<;>(try refine zH ?_)<;>intro hcond<;>try exact zX)|fail)
      by_cases hL0 : pickL es seen = []
      · rw [hL0] at hsort ⊢
        refine FWp.seq ?_
        repeat' (first|((first|(refine zT ?_;intro K' hK')|(refine zG ?_ ?_<;>(try refine zH ?_)<;>intro hguard<;>(try exact zX)<;>try intro K' hK'))<;>((try simp +contextual only [go_sem, eRows, List.map_nil]);(repeat' first|(with_reducible refine hK' _ _ ?_;clear hK' K')|(with_reducible refine zK SortE_none ?_;try simp +contextual only [go_sem, eRows, List.map_nil])|exact zY|with_reducible refine And.intro ?_ ?_|(with_reducible intro hpath;try exact zP)|(refine hK' _ _ ?_;clear hK' K')|fail);try refine zS ?_))|(refine zE ?_;refine hK _ _ ?_;clear hK K)|(refine zN ?_;try refine zS ?_)|refine zA ?_|(refine zB ?_;intro K hK)|(refine zC ?_ ?_<;>(try refine zH ?_)<;>intro hcond<;>try exact zX)|fail)
        refine FWp.of_awp ?_
        repeat' (first|((first|(refine zT ?_;intro K' hK')|(refine zG ?_ ?_<;>(try refine zH ?_)<;>intro hguard<;>(try exact zX)<;>try intro K' hK'))<;>((try simp +contextual only [go_sem]);(repeat' first|(with_reducible refine hK' _ _ ?_;clear hK' K')|exact zY|with_reducible refine And.intro ?_ ?_|(with_reducible intro hpath;try exact zP)|(refine hK' _ _ ?_;clear hK' K')|fail);try refine zS ?_))|(refine zE ?_;refine hK _ _ ?_;clear hK K)|(refine zN ?_;try refine zS ?_)|refine zA ?_|(refine zB ?_;intro K hK)|(refine zC ?_ ?_<;>(try refine zH ?_)<;>intro hcond<;>try exact zX)|fail)
        rw [← hsort]
        have hz : sortE [] = [] := List.Perm.eq_nil (sortE_perm [])
        simp [XRets, aretX, Blk.cells, ty, Tryz.results99, ares, toT1, toT, freshT, toTree0, Tree.flat, hz, eRows, tG]
      · generalize pickL es seen = L at *
        have hLl : L.length < 2 ^ 20 := by omega
        refine FWp.thawB 2 1 rfl rfl rfl (fun r hr => eRows_k' hr) (by decide) (fun r hr => flatRow_spec (eRows_flat hr)) (by simp [eRows, hL0]) (safe_all (by simp [safeB, safeC]; exact mE_safe' es)) (by simp [safeV, safeC, safeV1]) (maps1 _ _) (fun cap hcap => ?_)
        rw [eRows_len] at hcap
        have hsl2 : (sortE L).length = L.length := (sortE_perm L).length_eq
        refine FWp.seq ?_
        repeat' (first|((first|(refine zT ?_;intro K' hK')|(refine zG ?_ ?_<;>(try refine zH ?_)<;>intro hguard<;>(try exact zX)<;>try intro K' hK'))<;>((try simp +contextual only [go_sem, eRows_len]);(repeat' first|(with_reducible refine hK' _ _ ?_;clear hK' K')|((with_reducible first|refine ⟨_,_,SortE_ok L (by omega) rfl,?_⟩|refine ⟨_,SortE_ok L (by omega) rfl,?_⟩);try simp +contextual only [go_sem, eRows_len])|exact zY|with_reducible refine And.intro ?_ ?_|(with_reducible intro hpath;try exact zP)|(refine hK' _ _ ?_;clear hK' K')|fail);try refine zS ?_))|(refine zE ?_;refine hK _ _ ?_;clear hK K)|(refine zN ?_;try refine zS ?_)|refine zA ?_|(refine zB ?_;intro K hK)|(refine zC ?_ ?_<;>(try refine zH ?_)<;>intro hcond<;>try exact zX)|fail)
        refine FWp.of_awp ?_
        repeat' (first|((first|(refine zT ?_;intro K' hK')|(refine zG ?_ ?_<;>(try refine zH ?_)<;>intro hguard<;>(try exact zX)<;>try intro K' hK'))<;>((try simp +contextual only [go_sem]);(repeat' first|(with_reducible refine hK' _ _ ?_;clear hK' K')|exact zY|with_reducible refine And.intro ?_ ?_|(with_reducible intro hpath;try exact zP)|(refine hK' _ _ ?_;clear hK' K')|fail);try refine zS ?_))|(refine zE ?_;refine hK _ _ ?_;clear hK K)|(refine zN ?_;try refine zS ?_)|refine zA ?_|(refine zB ?_;intro K hK)|(refine zC ?_ ?_<;>(try refine zH ?_)<;>intro hcond<;>try exact zX)|fail)
        rw [← hsort]
        have hr := eRows_ref hsl2 hcap
        simp [XRets, aretX, Blk.cells, ty, Tryz.results99, ares, toT1, toT, freshT, toTree0, Tree.flat, hr, tG]
    · obtain ⟨x, hx, rfl⟩ := mE_get he
      have hje : j < es.length := (List.getElem?_eq_some_iff.1 hx).1
      have hsnoc := pickL_snoc (seen := seen) hx
      simp only [kvE, keyVal, mvVal]
      repeat' (first|((first|(refine zT ?_;intro K' hK')|(refine zG ?_ ?_<;>(try refine zH ?_)<;>intro hguard<;>(try exact zX)<;>try intro K' hK'))<;>((try simp +contextual only [go_sem, mE_at hx, kvE, mE_len, eRows_len, chunks, List.range, List.range.loop, eRows_snoc, hpl]);(repeat' first|(with_reducible refine hK' _ _ ?_;clear hK' K')|(with_reducible exact eRows_k' (by assumption))|exact zY|with_reducible refine And.intro ?_ ?_|(with_reducible intro hpath;try exact zP)|(refine hK' _ _ ?_;clear hK' K')|fail);try refine zS ?_))|(refine zE ?_;refine hK _ _ ?_;clear hK K)|(refine zN ?_;try refine zS ?_)|refine zA ?_|(refine zB ?_;intro K hK)|(refine zC ?_ ?_<;>(try refine zH ?_)<;>intro hcond<;>try exact zX)|fail)
      refine ⟨seen ++ [j],Weak.headF 5 32 [0, 1, 4, 5, 11] (zc @hsnoc (zc @mE_len (zc @hpl trivial))) zW,?_,?_⟩
      · refine ⟨List.nodup_append.2 ⟨hn, by simp, fun a ha b hb => by simp at hb; subst hb; rintro rfl; exact hj ha⟩, fun i hi => ?_⟩
        rcases List.mem_append.1 hi with hi | hi
        · exact hlt i hi
        · simp at hi; subst hi; exact hje
      · have := nodup_len (n := es.length) (seen := seen ++ [j]) (List.nodup_append.2 ⟨hn, by simp, fun a ha b hb => by simp at hb; subst hb; rintro rfl; exact hj ha⟩) (fun i hi => by
          rcases List.mem_append.1 hi with hi | hi
          · exact hlt i hi
          · simp at hi; subst hi; exact hje)
        simp at this ⊢
        omega
end Go.Proofs.YtfkegnhpihoncaaGreat
