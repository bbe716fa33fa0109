/- A part of the proof. -/
import Derived.Test.YtfkegnhpihoncaaGreatPart09
import Derived.Test.YtfkegnhpihoncaaGreatLayerC
import Derived.Test.YtfkegnhpihoncaaGreatPart01
import Derived.Test.YtfkegnhpihoncaaGreatPart08
import Derived.Test.YtfkegnhpihoncaaGreatLayerD
import Derived.Shelf.SlSortCmp.NoneTotal
set_option linter.all false
set_option maxHeartbeats 4000000
set_option maxRecDepth 100000
namespace Go.Proofs.YtfkegnhpihoncaaGreat
open Go.Sp
def kvE (e : E) : MKey × MV := (.ints [e.a, e.b], .c (.int .i64 e.m))
def mE (es : List E) : List (MKey × MV) := es.map kvE
theorem mE_len (es : List E) : (mE es).length = es.length := by simp [mE]
theorem mE_get {es : List E} {j : Nat} {e : MKey × MV} (h : (mE es)[j]? = some e) : ∃ x, es[j]? = some x ∧ e = kvE x := by
 simp only [mE, List.getElem?_map] at h
 cases hx : es[j]? with
 | none => simp [hx] at h
 | some x => simp [hx] at h; exact ⟨x, rfl, h.symm⟩
theorem mE_at {es : List E} {j : Nat} {x : E} (h : es[j]? = some x) : (mE es)[j]? = some (kvE x) := by simp [mE, h]
def pickL {α : Type} (l : List α) (seen : List Nat) : List α := seen.filterMap (l[·]?)
theorem pickL_snoc {α : Type} {l : List α} {seen : List Nat} {j : Nat} {x : α} (h : l[j]? = some x) : pickL l (seen ++ [j]) = pickL l seen ++ [x] := by
 simp [pickL, List.filterMap_append, h]
theorem pickL_len {α : Type} {l : List α} : ∀ {seen : List Nat}, (∀ j, j ∈ seen → j < l.length) → (pickL l seen).length = seen.length := by
 intro seen
 induction seen with
 | nil => intro _; rfl
 | cons j s ih =>
  intro h
  have hj := h j (by simp)
  have := ih fun i hi => h i (by simp [hi])
  simp only [pickL] at this ⊢
  rw [List.filterMap_cons, List.getElem?_eq_getElem hj]
  simp [this]
theorem pickL_range {α : Type} (l : List α) : pickL l (List.range l.length) = l := by
 apply List.ext_getElem?
 intro i
 have hlen : (pickL l (List.range l.length)).length = l.length := by rw [pickL_len (fun j hj => by simpa using hj)]; simp
 by_cases hi : i < l.length
 ·have e : List.range l.length = List.range i ++ (i :: (List.range l.length).drop (i + 1)) := by
   conv => lhs; rw [← List.take_append_drop i (List.range l.length)]
   rw [List.take_range, Nat.min_eq_left (by omega), List.drop_eq_getElem_cons (by simpa using hi)]
   simp
  rw [e]
  simp only [pickL, List.filterMap_append, List.filterMap_cons, List.getElem?_eq_getElem hi]
  have h1 : (List.filterMap (fun x => l[x]?) (List.range i)).length = i := by
   have := pickL_len (l := l) (seen := List.range i) (fun j hj => by simp at hj; omega)
   simpa [pickL] using this
  rw [List.getElem?_append_right (by omega), h1]
  simp
 ·rw [List.getElem?_eq_none (by omega), List.getElem?_eq_none (by omega)]
theorem pickL_perm {α : Type} {l : List α} {seen : List Nat} (h1 : seen.Nodup) (h2 : ∀ j, j ∈ seen → j < l.length) (h3 : ∀ j, j < l.length → j ∈ seen) : (pickL l seen).Perm l := by
 have hp : seen.Perm (List.range l.length) := (List.perm_ext_iff_of_nodup h1 List.nodup_range).2 fun j => by simp only [List.mem_range]; exact ⟨h2 j, h3 j⟩
 have := List.Perm.filterMap (l[·]?) hp
 have e := pickL_range l
 unfold pickL at e ⊢
 rw [e] at this; exact this
theorem nodup_len {n : Nat} {seen : List Nat} (h1 : seen.Nodup) (h2 : ∀ j, j ∈ seen → j < n) : seen.length ≤ n := by
 have := List.Nodup.length_le_of_subset h1 (l₂ := List.range n) (fun j hj => by simp; exact h2 j hj)
 simpa using this
theorem eRows_snoc (l : List E) (x : E) : eRows l ++ [[.int .i64 x.a, .int .i64 x.b, .int .i64 x.m]] = eRows (l ++ [x]) := by simp [eRows, eRow]
theorem eRows_k' {l : List E} {r : List Tree} (h : r ∈ eRows l) : r.length = 3 := by
 obtain ⟨x, _, rfl⟩ := List.mem_map.1 h; rfl
theorem mE_safe (es : List E) : safeB (.map (mE es)) := fun e he => by
 obtain ⟨x, _, rfl⟩ := List.mem_map.1 he; exact rfl
theorem mE_safe' (es : List E) : ∀ (a : MKey) (b : MV), (a, b) ∈ mE es → safeMV b := fun a b h => mE_safe es (a, b) h
theorem safe_all {l : List Blk} (h : ∀ b, b ∈ l → safeB b) (id : Nat) (blk : Blk) (hb : l[id]? = some blk) : safeB blk := h blk (List.mem_of_getElem? hb)
theorem maps1 (es : List (MKey × MV)) (l : List Blk) : ∀ id, id < 1 → ∃ es', (Blk.map es :: l)[id]? = some (.map es') := fun id h => by
 have : id = 0 := by omega
 subst this
 exact ⟨es, rfl⟩
theorem eRows_flat {l : List E} {r : List Tree} (h : r ∈ eRows l) : flatRow r = true := by
 obtain ⟨x, _, rfl⟩ := List.mem_map.1 h; rfl
theorem eRows_ref {l : List E} {n cap : Nat} (hn : l.length = n) (hc : n ≤ cap) : refRows (flatRows (eRows l)) 3 0 n cap = some (eRows l) := by
 have := refRows_flat (rows := eRows l) (k := 3) (cap := cap) (fun r hr => eRows_k' hr) (fun r hr => eRows_flat hr) (by rw [eRows_len]; omega)
 rwa [eRows_len, hn] at this
theorem graph_ok (n : Int) (es : List E) (hdis : distinctE es) (hl : es.length < 2 ^ 20) : ACallX Tryz.prog 99 [.map (mE es)] [.c (.map 0), .c (.int .i64 n)] (tG ⟨n, sortE es⟩) := by
 refine ACallX.of_body Tryz.func99 rfl (by kernel_rfl) (by simp [isMap]) ?_
 simp only [entry, Tryz.ntmps99, ofT, ofT1, ofTree, List.map_cons, List.map_nil, List.length_cons, List.length_nil, Nat.reduceAdd, Nat.reduceSub, List.replicate_succ, List.replicate_zero, List.cons_append, List.nil_append]
 refine FWp.seq ?_
 refine zR trivial trivial trivial ?_
 refine FWp.seq ?_
 refine zR trivial trivial trivial ?_
 refine FWp.seq ?_
 refine AWp.seq ?_
 refine zR trivial trivial trivial ?_
 refine AWp.weak (Weak.openB 2 1 3 rfl rfl (by omega)) ?_
 simp only [List.set_cons_succ, List.set_cons_zero, List.length_cons, List.length_nil, List.length_append, Nat.reduceAdd, List.cons_append, List.nil_append]
 refine AWp.loopS (α:=List Nat) 32 (fun seen=>[(0,.c (.map 0)),(1,.c (.int .i64 n)),(4,.c (.ptr 1 0)),(5,.c (.ptr 2 0)),(11,.c (.iter 3))]) (fun seen=>[.map (mE es), .box [.int .i64 0, .nils], .box [.int .i64 n, .slice (eRows (pickL es seen)) (.chain 4)], .iter 0 (mE es).length seen, .chain (pickL es seen).length 3]) (fun seen=>seen.Nodup ∧ ∀ j, j ∈ seen → j < es.length) (fun seen=>es.length - seen.length) ([]) (hk:=Weak.headL 5 32 [0, 1, 4, 5, 11] zW) (h0:=?_) (round:=fun seen hI=>?_)
 ·exact ⟨List.nodup_nil, fun j hj => by cases hj⟩
 ·obtain ⟨hn, hlt⟩ := hI
  have hsl := nodup_len hn hlt
  have hpl := pickL_len hlt
  refine AWp.seq_next rfl rfl rfl rfl rfl (fun hd K hK => ?_) (fun j e hj he K hK => ?_) <;> (try refine zS ?_)
  ·have hperm : (pickL es seen).Perm es := pickL_perm hn hlt (fun j hj => hd j (by rw [mE_len]; exact hj))
   have hsort := sortE_congr hdis hperm
   repeat' (first|((first|(refine zT ?_;intro K' hK')|(refine zG ?_ ?_<;>(try refine zH ?_)<;>intro hguard<;>(try exact zX)<;>try intro K' hK'))<;>((try simp +contextual only [go_sem]);(repeat' first|(with_reducible refine hK' _ _ ?_;clear hK' K')|exact zY|with_reducible refine And.intro ?_ ?_|(with_reducible intro hpath;try exact zP)|(refine hK' _ _ ?_;clear hK' K')|fail);try refine zS ?_))|(refine zE ?_;refine hK _ _ ?_;clear hK K)|(refine zN ?_;try refine zS ?_)|refine zA ?_|(refine zB ?_;intro K hK)|(refine zC ?_ ?_<;>(try refine zH ?_)<;>intro hcond<;>try exact zX)|fail)
   by_cases hL0 : pickL es seen = []
   ·rw [hL0] at hsort ⊢
    refine FWp.seq ?_
    repeat' (first|((first|(refine zT ?_;intro K' hK')|(refine zG ?_ ?_<;>(try refine zH ?_)<;>intro hguard<;>(try exact zX)<;>try intro K' hK'))<;>((try simp +contextual only [go_sem, eRows, List.map_nil]);(repeat' first|(with_reducible refine hK' _ _ ?_;clear hK' K')|(with_reducible refine zK SortE_none ?_;try simp +contextual only [go_sem, eRows, List.map_nil])|exact zY|with_reducible refine And.intro ?_ ?_|(with_reducible intro hpath;try exact zP)|(refine hK' _ _ ?_;clear hK' K')|fail);try refine zS ?_))|(refine zE ?_;refine hK _ _ ?_;clear hK K)|(refine zN ?_;try refine zS ?_)|refine zA ?_|(refine zB ?_;intro K hK)|(refine zC ?_ ?_<;>(try refine zH ?_)<;>intro hcond<;>try exact zX)|fail)
    refine FWp.of_awp ?_
    repeat' (first|((first|(refine zT ?_;intro K' hK')|(refine zG ?_ ?_<;>(try refine zH ?_)<;>intro hguard<;>(try exact zX)<;>try intro K' hK'))<;>((try simp +contextual only [go_sem]);(repeat' first|(with_reducible refine hK' _ _ ?_;clear hK' K')|exact zY|with_reducible refine And.intro ?_ ?_|(with_reducible intro hpath;try exact zP)|(refine hK' _ _ ?_;clear hK' K')|fail);try refine zS ?_))|(refine zE ?_;refine hK _ _ ?_;clear hK K)|(refine zN ?_;try refine zS ?_)|refine zA ?_|(refine zB ?_;intro K hK)|(refine zC ?_ ?_<;>(try refine zH ?_)<;>intro hcond<;>try exact zX)|fail)
    rw [← hsort]
    have hz : sortE [] = [] := List.Perm.eq_nil (sortE_perm [])
    simp [XRets, aretX, Blk.cells, ty, Tryz.results99, ares, toT1, toT, freshT, toTree0, Tree.flat, hz, eRows, tG]
   ·generalize pickL es seen = L at *
    have hLl : L.length < 2 ^ 20 := by omega
    refine FWp.thawB 2 1 rfl rfl rfl (fun r hr => eRows_k' hr) (by decide) (fun r hr => flatRow_spec (eRows_flat hr)) (by simp [eRows, hL0]) (safe_all (by simp [safeB, safeC]; exact mE_safe' es)) (by simp [safeV, safeC, safeV1]) (maps1 _ _) (fun cap hcap => ?_)
    rw [eRows_len] at hcap
    have hsl2 : (sortE L).length = L.length := (sortE_perm L).length_eq
    refine FWp.seq ?_
    repeat' (first|((first|(refine zT ?_;intro K' hK')|(refine zG ?_ ?_<;>(try refine zH ?_)<;>intro hguard<;>(try exact zX)<;>try intro K' hK'))<;>((try simp +contextual only [go_sem, eRows_len]);(repeat' first|(with_reducible refine hK' _ _ ?_;clear hK' K')|((with_reducible first|refine ⟨_,_,SortE_ok L (by omega) rfl,?_⟩|refine ⟨_,SortE_ok L (by omega) rfl,?_⟩);try simp +contextual only [go_sem, eRows_len])|exact zY|with_reducible refine And.intro ?_ ?_|(with_reducible intro hpath;try exact zP)|(refine hK' _ _ ?_;clear hK' K')|fail);try refine zS ?_))|(refine zE ?_;refine hK _ _ ?_;clear hK K)|(refine zN ?_;try refine zS ?_)|refine zA ?_|(refine zB ?_;intro K hK)|(refine zC ?_ ?_<;>(try refine zH ?_)<;>intro hcond<;>try exact zX)|fail)
    refine FWp.of_awp ?_
    repeat' (first|((first|(refine zT ?_;intro K' hK')|(refine zG ?_ ?_<;>(try refine zH ?_)<;>intro hguard<;>(try exact zX)<;>try intro K' hK'))<;>((try simp +contextual only [go_sem]);(repeat' first|(with_reducible refine hK' _ _ ?_;clear hK' K')|exact zY|with_reducible refine And.intro ?_ ?_|(with_reducible intro hpath;try exact zP)|(refine hK' _ _ ?_;clear hK' K')|fail);try refine zS ?_))|(refine zE ?_;refine hK _ _ ?_;clear hK K)|(refine zN ?_;try refine zS ?_)|refine zA ?_|(refine zB ?_;intro K hK)|(refine zC ?_ ?_<;>(try refine zH ?_)<;>intro hcond<;>try exact zX)|fail)
    rw [← hsort]
    have hr := eRows_ref hsl2 hcap
    simp [XRets, aretX, Blk.cells, ty, Tryz.results99, ares, toT1, toT, freshT, toTree0, Tree.flat, hr, tG]
  ·obtain ⟨x, hx, rfl⟩ := mE_get he
   have hje : j < es.length := (List.getElem?_eq_some_iff.1 hx).1
   have hsnoc := pickL_snoc (seen := seen) hx
   simp only [kvE, keyVal, mvVal]
   repeat' (first|((first|(refine zT ?_;intro K' hK')|(refine zG ?_ ?_<;>(try refine zH ?_)<;>intro hguard<;>(try exact zX)<;>try intro K' hK'))<;>((try simp +contextual only [go_sem, mE_at hx, kvE, mE_len, eRows_len, chunks, List.range, List.range.loop, eRows_snoc, hpl]);(repeat' first|(with_reducible refine hK' _ _ ?_;clear hK' K')|(with_reducible exact eRows_k' (by assumption))|exact zY|with_reducible refine And.intro ?_ ?_|(with_reducible intro hpath;try exact zP)|(refine hK' _ _ ?_;clear hK' K')|fail);try refine zS ?_))|(refine zE ?_;refine hK _ _ ?_;clear hK K)|(refine zN ?_;try refine zS ?_)|refine zA ?_|(refine zB ?_;intro K hK)|(refine zC ?_ ?_<;>(try refine zH ?_)<;>intro hcond<;>try exact zX)|fail)
   refine ⟨seen ++ [j],Weak.headF 5 32 [0, 1, 4, 5, 11] (zc @hsnoc (zc @mE_len (zc @hpl trivial))) zW,?_,?_⟩
   ·refine ⟨List.nodup_append.2 ⟨hn, by simp, fun a ha b hb => by simp at hb; subst hb; rintro rfl; exact hj ha⟩, fun i hi => ?_⟩
    rcases List.mem_append.1 hi with hi | hi
    ·exact hlt i hi
    ·simp at hi; subst hi; exact hje
   ·have := nodup_len (n := es.length) (seen := seen ++ [j]) (List.nodup_append.2 ⟨hn, by simp, fun a ha b hb => by simp at hb; subst hb; rintro rfl; exact hj ha⟩) (fun i hi => by
     rcases List.mem_append.1 hi with hi | hi
     ·exact hlt i hi
     ·simp at hi; subst hi; exact hje)
    simp at this ⊢
    omega
def atL (L : List (Int × Int)) (h : Nat) : Int := if h % 2 = 0 then (L.getD (h / 2) (0, 0)).1 else (L.getD (h / 2) (0, 0)).2
def ownL (L : List (Int × Int)) (v : Int) (k : Nat) : List Int := ((List.range k).filter fun h => decide (atL L h = v)).map fun h : Nat => (h : Int)
def halvesL (L : List (Int × Int)) (n k : Nat) : List (List Int) := (List.range n).map fun v : Nat => ownL L (v : Int) k
theorem ownL_succ (L : List (Int × Int)) (v : Int) (k : Nat) : ownL L v (k + 1) = if atL L k = v then ownL L v k ++ [(k : Int)] else ownL L v k := by
 unfold ownL
 rw [List.range_succ, List.filter_append]
 by_cases h : atL L k = v <;> simp [h]
theorem ownL_mem {L : List (Int × Int)} {v : Int} {k : Nat} {x : Int} : x ∈ ownL L v k ↔ 0 ≤ x ∧ x < k ∧ atL L x.toNat = v := by
 unfold ownL
 rw [List.mem_map]
 constructor
 ·rintro ⟨h, hm, rfl⟩
  rw [List.mem_filter, List.mem_range, decide_eq_true_eq] at hm
  exact ⟨by omega, by omega, by simpa using hm.2⟩
 ·rintro ⟨h1, h2, h3⟩
  refine ⟨x.toNat, ?_, by omega⟩
  rw [List.mem_filter, List.mem_range, decide_eq_true_eq]
  exact ⟨by omega, h3⟩
theorem ownL_sorted (L : List (Int × Int)) (v : Int) (k : Nat) : (ownL L v k).Pairwise (· < ·) := by
 unfold ownL
 rw [List.pairwise_map]
 exact (List.pairwise_lt_range.filter _).imp fun h => by omega
theorem ownL_len (L : List (Int × Int)) (v : Int) (k : Nat) : (ownL L v k).length ≤ k := by
 unfold ownL
 rw [List.length_map]
 exact Nat.le_trans (List.length_filter_le _ _) (by simp)
theorem halvesL_len (L : List (Int × Int)) (n k : Nat) : (halvesL L n k).length = n := by simp [halvesL]
theorem halvesL_get {L : List (Int × Int)} {n k v : Nat} (hv : v < n) : (halvesL L n k)[v]? = some (ownL L (v : Int) k) := by simp [halvesL, hv]
theorem halvesL_zero (L : List (Int × Int)) (n : Nat) : List.replicate n [] = halvesL L n 0 := by
 rw [halvesL, eq_comm, List.eq_replicate_iff]
 exact ⟨by simp, fun x hx => by obtain ⟨_, _, rfl⟩ := List.mem_map.1 hx; rfl⟩
theorem halvesL_succ {L : List (Int × Int)} {n k v : Nat} (hv : v < n) (h : atL L k = v) : halvesL L n (k + 1) = (halvesL L n k).set v (ownL L (v : Int) k ++ [(k : Int)]) := by
 apply List.ext_getElem?
 intro i
 by_cases hi : i < n
 ·rw [halvesL_get hi, ownL_succ]
  by_cases e : v = i
  ·subst e
   rw [List.getElem?_set_self (by rw [halvesL_len]; exact hv), if_pos h]
  ·rw [List.getElem?_set_ne e, halvesL_get hi, if_neg (by omega)]
 ·rw [List.getElem?_eq_none (by rw [halvesL_len]; omega), List.getElem?_eq_none (by rw [List.length_set, halvesL_len]; omega)]
def lstGo (own : List Int) : List Int → List Int → Int
 | _, [] => 0
 | pre, h :: t => if h ∈ own then (if h ∈ pre then 7 else lstGo own (pre ++ [h]) t) else 2
def lstErr (l own : List Int) : Int :=
 if l.length ≠ own.length then 8 else if lstGo own [] l ≠ 0 then lstGo own [] l else if l ≠ [] ∧ l.getD 0 0 ≠ own.getD 0 0 then 9 else 0
def chkGo (L : List (Int × Int)) (N : Nat) : Nat → List (List Int) → Int
 | _, [] => 0
 | v, l :: ar => if lstErr l (ownL L (v : Int) N) ≠ 0 then lstErr l (ownL L (v : Int) N) else chkGo L N (v + 1) ar
theorem lstGo_zero {own : List Int} : ∀ {pre l : List Int}, lstGo own pre l = 0 → (∀ x, x ∈ l → x ∈ own) ∧ l.Nodup ∧ ∀ x, x ∈ l → x ∉ pre
 | _, [], _ => ⟨fun x hx => (by cases hx), List.nodup_nil, fun x hx => (by cases hx)⟩
 | pre, h :: t, e => by
  simp only [lstGo] at e
  split at e
  ·rename_i h1
   split at e
   ·omega
   ·rename_i h2
    obtain ⟨q1, q2, q3⟩ := lstGo_zero e
    refine ⟨fun x hx => ?_, List.nodup_cons.2 ⟨fun hm => q3 h hm (by simp), q2⟩, fun x hx => ?_⟩
    ·rcases List.mem_cons.1 hx with rfl | hx
     ·exact h1
     ·exact q1 x hx
    ·rcases List.mem_cons.1 hx with rfl | hx
     ·exact h2
     ·intro hp; exact q3 x hx (by simp [hp])
  ·omega
structure LOk (l own : List Int) : Prop where
 nd : l.Nodup
 sub : ∀ x, x ∈ l → x ∈ own
 sup : ∀ x, x ∈ own → x ∈ l
 len : l.length = own.length
 hd : l = [] ∨ l.getD 0 0 = own.getD 0 0
theorem sup_of {l own : List Int} (h1 : l.Nodup) (h2 : ∀ x, x ∈ l → x ∈ own) (h3 : l.length = own.length) : ∀ x, x ∈ own → x ∈ l := by
 intro x hx
 apply Classical.byContradiction
 intro hn
 have := List.Nodup.length_le_of_subset (l₁ := x :: l) (l₂ := own) (List.nodup_cons.2 ⟨hn, h1⟩) (fun y hy => by
  rcases List.mem_cons.1 hy with rfl | hy
  ·exact hx
  ·exact h2 y hy)
 simp at this; omega
theorem lstErr_zero {l own : List Int} (h : lstErr l own = 0) : LOk l own := by
 unfold lstErr at h
 split at h
 ·omega
 ·rename_i h1
  split at h
  ·omega
  ·rename_i h2
   split at h
   ·omega
   ·rename_i h3
    simp only [ne_eq, Decidable.not_not] at h1 h2
    obtain ⟨q1, q2, _⟩ := lstGo_zero h2
    refine ⟨q2, q1, sup_of q2 q1 h1, h1, ?_⟩
    by_cases e : l = []
    ·exact .inl e
    ·exact .inr (Classical.byContradiction fun hn => h3 ⟨e, hn⟩)
theorem chkGo_zero {L : List (Int × Int)} {N : Nat} : ∀ {v : Nat} {ar : List (List Int)}, chkGo L N v ar = 0 → ∀ i l, ar[i]? = some l → LOk l (ownL L ((v + i : Nat) : Int) N)
 | v, [], _, i, l, hl => by simp at hl
 | v, x :: ar, h, i, l, hl => by
  simp only [chkGo] at h
  split at h
  ·omega
  ·rename_i h1
   simp only [ne_eq, Decidable.not_not] at h1
   cases i with
   | zero => simp at hl; subst hl; exact lstErr_zero h1
   | succ i =>
    have := chkGo_zero h i l (by simpa using hl)
    rwa [show v + 1 + i = v + (i + 1) by omega] at this
def oppH (h : Nat) : Nat := h + 1 - 2 * (h % 2)
def nextI (l : List Int) (x : Int) : Int := l.getD ((l.idxOf x + 1) % l.length) 0
def nextR (L : List (Int × Int)) (ar : List (List Int)) (h : Nat) : Int := nextI (ar.getD (atL L h).toNat []) (h : Int)
def fR (L : List (Int × Int)) (ar : List (List Int)) (h : Nat) : Nat := (nextR L ar (oppH h)).toNat
theorem oppH_lt {m h : Nat} (hh : h < 2 * m) : oppH h < 2 * m := by unfold oppH; omega
theorem oppH_opp (h : Nat) : oppH (oppH h) = h := by unfold oppH; omega
theorem nodup_at {α : Type} {l : List α} (hn : l.Nodup) {i j : Nat} (hi : i < l.length) (hj : j < l.length) (e : l[i] = l[j]) : i = j := by
 rw [List.Nodup, List.pairwise_iff_getElem] at hn
 rcases Nat.lt_trichotomy i j with h | h | h
 ·exact absurd e (hn i j hi hj h)
 ·exact h
 ·exact absurd e.symm (hn j i hj hi h)
theorem getD_idx {l : List Int} {x : Int} (hx : x ∈ l) : l.idxOf x < l.length ∧ l[l.idxOf x]? = some x := by
 have h := List.idxOf_lt_length_of_mem hx
 exact ⟨h, by rw [List.getElem?_eq_getElem h, List.getElem_idxOf h]⟩
theorem nextI_mem {l : List Int} {x : Int} (hx : x ∈ l) : nextI l x ∈ l := by
 have h := (getD_idx hx).1
 unfold nextI
 rw [List.getD_eq_getElem?_getD, List.getElem?_eq_getElem (Nat.mod_lt _ (by omega))]
 exact List.getElem_mem _
theorem nextI_inj {l : List Int} (hn : l.Nodup) {x y : Int} (hx : x ∈ l) (hy : y ∈ l) (e : nextI l x = nextI l y) : x = y := by
 obtain ⟨h1, h2⟩ := getD_idx hx
 obtain ⟨h3, h4⟩ := getD_idx hy
 have m1 : (l.idxOf x + 1) % l.length < l.length := Nat.mod_lt _ (by omega)
 have m2 : (l.idxOf y + 1) % l.length < l.length := Nat.mod_lt _ (by omega)
 unfold nextI at e
 rw [List.getD_eq_getElem?_getD, List.getElem?_eq_getElem m1, List.getD_eq_getElem?_getD, List.getElem?_eq_getElem m2] at e
 simp only [Option.getD_some] at e
 have e2 := nodup_at hn m1 m2 e
 have key : ∀ a b c : Nat, a < c → b < c → (a + 1) % c = (b + 1) % c → a = b := fun a b c ha hb hab => by
  by_cases q1 : a + 1 = c
  ·by_cases q2 : b + 1 = c
   ·omega
   ·rw [q1, Nat.mod_self, Nat.mod_eq_of_lt (by omega)] at hab; omega
  ·by_cases q2 : b + 1 = c
   ·rw [q2, Nat.mod_self, Nat.mod_eq_of_lt (by omega)] at hab; omega
   ·rw [Nat.mod_eq_of_lt (by omega), Nat.mod_eq_of_lt (by omega)] at hab; omega
 have e3 := key _ _ _ h1 h3 e2
 rw [← Option.some.injEq, ← h2, ← h4, e3]
end Go.Proofs.YtfkegnhpihoncaaGreat
namespace Go.Proofs.YtfkegnhpihoncaaGreat
open Go.Sp Go.RowKit
open Go.Sort (SWO)
def mnL (L : List (Int × Int)) (a : Nat) : Int := min (L.getD a (0, 0)).1 (L.getD a (0, 0)).2
def mxL (L : List (Int × Int)) (a : Nat) : Int := max (L.getD a (0, 0)).1 (L.getD a (0, 0)).2
def cfN (L : List (Int × Int)) (a b : Nat) : Int := orI [cmpI (mnL L a) (mnL L b), cmpI (mxL L a) (mxL L b), cmpI a b]
def ltN (L : List (Int × Int)) (a b : Nat) : Prop := mnL L a < mnL L b ∨ (mnL L a = mnL L b ∧ (mxL L a < mxL L b ∨ (mxL L a = mxL L b ∧ a < b)))
instance ltN.dec (L : List (Int × Int)) (a b : Nat) : Decidable (ltN L a b) := by unfold ltN; infer_instance
theorem cfN_lt (L : List (Int × Int)) (a b : Nat) : cfN L a b < 0 ↔ ltN L a b := by
 unfold cfN orI orI orI cmpI ltN
 (repeat' split) <;> simp_all [orI] <;> omega
theorem closN_ok (L : List (Int × Int)) (hl : L.length < 2 ^ 40) (a b : Nat) (ha : a < L.length) (hb : b < L.length) : ACall Tryz.prog 101 [tint a, tint b, .t (.rptr [.slice (pRows L)])] (tint (cfN L a b)) := by
 have ea := List.getElem?_eq_getElem ha
 have eb := List.getElem?_eq_getElem hb
 have ra := pRows_get ea
 have rb := pRows_get eb
 have hmna : mnL L a = min L[a].1 L[a].2 := by unfold mnL; rw [List.getD_eq_getElem?_getD, ea]; rfl
 have hmxa : mxL L a = max L[a].1 L[a].2 := by unfold mxL; rw [List.getD_eq_getElem?_getD, ea]; rfl
 have hmnb : mnL L b = min L[b].1 L[b].2 := by unfold mnL; rw [List.getD_eq_getElem?_getD, eb]; rfl
 have hmxb : mxL L b = max L[b].1 L[b].2 := by unfold mxL; rw [List.getD_eq_getElem?_getD, eb]; rfl
 have haI : (a : Int) < L.length := by omega
 have hbI : (b : Int) < L.length := by omega
 have hO := Or_ok [cmpI (mnL L a) (mnL L b), cmpI (mxL L a) (mxL L b), cmpI a b] (by simp)
 have c1 := Compare_ok (mnL L a) (mnL L b)
 have c2 := Compare_ok (mxL L a) (mxL L b)
 have c3 := Compare_ok a b
 unfold cfN
 generalize L[a] = p at *
 generalize L[b] = q at *
 rw [hmna, hmnb] at c1 hO ⊢
 rw [hmxa, hmxb] at c2 hO ⊢
 generalize cmpI (min p.1 p.2) (min q.1 q.2) = x at *
 generalize cmpI (max p.1 p.2) (max q.1 q.2) = y at *
 generalize cmpI (a : Int) (b : Int) = z at *
 simp only [ints, List.map_cons, List.map_nil] at hO
 generalize orI [x, y, z] = o at *
 refine ACall.of_body Tryz.func101 rfl (by kernel_rfl) ?_
 simp only [entry, Tryz.ntmps101, tint]
 refine zU ?_
 refine zRc (zc @haI (zc @hbI (zc @ra (zc @rb (zc @pRows_len (zc @Int.toNat_zero (zc @Int.toNat_one trivial))))))) (zc c1 (zc c2 (zc c3 (zc hO trivial)))) trivial ?_
 simp [Rets, aret, Blk.cells, ty, Tryz.results101, ares, toT1, toT, borrow, borrow0, capCell, toTree0, tint]
theorem swoN (L : List (Int × Int)) (m : Nat) : SWO (Go.Proofs.ltOf fun x y : Fin m => cfN L x.val y.val) where
 irrefl x := by
  rw [← Bool.not_eq_true]
  unfold Go.Proofs.ltOf
  rw [decide_eq_true_eq, cfN_lt]; unfold ltN; omega
 trans x y z h1 h2 := by
  unfold Go.Proofs.ltOf at *
  rw [decide_eq_true_eq, cfN_lt] at *; unfold ltN at *; omega
 ntrans x y z h1 h2 := by
  rw [← Bool.not_eq_true] at *
  unfold Go.Proofs.ltOf at *
  rw [decide_eq_true_eq, cfN_lt] at *; unfold ltN at *; omega
theorem enterSN : ∀ args w, (callFunc 100 args).run Tryz.prog w = .ok (.enter 100 args) w := Go.Proofs.enters_of Tryz.func100 (by kernel_rfl) rfl
def cellF {m : Nat} (x : Fin m) : Tree := .int .i64 (x.val : Int)
theorem SortN_ok (L : List (Int × Int)) (hl : L.length < 2 ^ 40) (h0 : 0 < L.length) (xs : List (Fin L.length)) (hx : xs.length < 2 ^ 40) {H : List Blk} {id cap : Nat} (hid : H[id]? = some (.box (flatRows (cellRows cellF xs)))) :
  ACallH Tryz.prog 100 H [.c (.ref id 1 0 xs.length cap), .c (.fn 101 [.tree (.rptr [.slice (pRows L)])])]
   (H.set id (.box (flatRows (cellRows cellF (@sortL (Fin L.length) ⟨⟨0, h0⟩⟩ (fun x y => cfN L x.val y.val) xs))))) (.tup []) := by
 exact @SortFunc1_call (Fin L.length) ⟨⟨0, h0⟩⟩ cellF _ _ laySortC (fun _ => rfl) (fun x y => cfN L x.val y.val) (swoN L L.length) 101 [.rptr [.slice (pRows L)]] (fun x y => closN_ok L hl x.val y.val x.isLt y.isLt) enterSN xs (by omega) H id cap hid
theorem SortN_none {H : List Blk} {id cap : Nat} {v : AVal} (hid : H[id]? = some (.box (iC []))) : ACallH Tryz.prog 100 H [.c (.ref id 1 0 0 cap), v] H (.tup []) := by
 refine ⟨enterSN, fun ι σ w vs hH hl hv => ?_⟩
 match vs, hl with
 | [v0, v1], _ =>
 have h0 : CRel ι σ w H (.ref id 1 0 0 cap) v0 := hv 0 _ v0 rfl rfl
 obtain ⟨b, hi, cap', _, rfl⟩ := h0
 refine (Go.Proofs.AnyF.slices_SortFunc_none { laySortC with } _ cap' v1 w).mono ?_
 rintro e w' ⟨rfl, rfl⟩
 exact ⟨_, ι, σ, rfl, ⟨#[], rfl, rfl, by simp⟩, hH, Mono.refl .., Ext.refl ..⟩
end Go.Proofs.YtfkegnhpihoncaaGreat
namespace Go.Proofs.YtfkegnhpihoncaaGreat
open Go.Sp
def swapI (l : List Int) : Nat → List Int
 | 0 => l
 | i + 1 => ((swapI l i).set i ((swapI l i)[l.length - 1 - i]?.getD 0)).set (l.length - 1 - i) ((swapI l i)[i]?.getD 0)
@[simp] theorem swapI_zero (l : List Int) : swapI l 0 = l := rfl
theorem pre_in {m : Nat} {pre : List Blk} {B : List Int} (hpre : ∀ b, b ∈ pre → blkIn (pre.length + 1) b) (hm : m = pre.length + 1 := by rfl) : blksIn m (pre ++ [.box (iC B)]) := by
 subst hm
 intro b hb
 rcases List.mem_append.1 hb with hb | hb
 ·exact hpre b hb
 ·obtain rfl := List.mem_singleton.1 hb
  exact iC_in
@[simp] theorem take_pre (pre : List Blk) (X : Blk) : (pre ++ [X]).take (pre.length + 1) = pre ++ [X] := List.take_of_length_le (by simp)
end Go.Proofs.YtfkegnhpihoncaaGreat
namespace Go.Proofs.YtfkegnhpihoncaaGreat
open Go.ChangeShapes Go.WideShapes Go.ChangeAt Go.RowKit Go.Joins Go.Sp
theorem open_ribbon {H : Type} {enc : TypeId × Value → H} {w : World} {r : Reach} {b0 base : Nat} {spare : Nat → Bool} {held : Bool} {v : Value} {d : DataW H} {p : List MemPlace}
  (hv : Value.okWide Tryz.prog w r b0 27 v) (h : DataW.Trod enc Tryz.prog w base spare held 27 v d p) : ∃ x : R, TVRel (fun _ _ => True) w (tR x) v := by
 obtain ⟨cs, rfl, hsz⟩ := okWide_struct Tryz.underlying27 hv
 have hC : Tryz.prog.cellsOf 27 = 3 := by kernel_rfl
 have hC2 : Tryz.prog.cellsOf 24 = 2 := by kernel_rfl
 have hC1 : Tryz.prog.cellsOf 25 = 1 := by kernel_rfl
 have hC0 : Tryz.prog.cellsOf 3 = 1 := by kernel_rfl
 have hCe : Tryz.prog.cellsOf 22 = 1 := by kernel_rfl
 have hCi : Tryz.prog.cellsOf 40 = 1 := by kernel_rfl
 obtain ⟨c0, c1, c2, rfl⟩ := array3 (hsz.trans hC)
 obtain ⟨fuel, hf⟩ := h
 obtain ⟨xs, m, -, -, -, hx, hg⟩ := DataW.trod_struct Tryz.underlying27 hf
 have g0 : DataW.trod enc Tryz.prog w base spare held m 24 (([c0, c1, c2].drop 0).take (Tryz.prog.cellsOf 24)) = xs[0]? := hg 0 _ rfl
 have g1 : DataW.trod enc Tryz.prog w base spare held m 25 (([c0, c1, c2].drop 2).take (Tryz.prog.cellsOf 25)) = xs[1]? := hg 1 _ rfl
 have hx2 : xs.length = 2 := hx
 rw [List.getElem?_eq_getElem (by omega)] at g0 g1
 simp only [hC2, hC1, List.drop_zero, List.take_succ_cons, List.take_zero, List.drop_succ_cons, List.drop_zero] at g0 g1
 obtain ⟨ys, m', -, -, -, hy, hk⟩ := DataW.trod_struct Tryz.underlying24 g0
 have k0 : DataW.trod enc Tryz.prog w base spare held m' 3 (([c0, c1].drop 0).take (Tryz.prog.cellsOf 3)) = ys[0]? := hk 0 _ rfl
 have k1 : DataW.trod enc Tryz.prog w base spare held m' 22 (([c0, c1].drop 1).take (Tryz.prog.cellsOf 22)) = ys[1]? := hk 1 _ rfl
 have hy2 : ys.length = 2 := hy
 rw [List.getElem?_eq_getElem (by omega)] at k0 k1
 simp only [hC0, hCe, List.drop_zero, List.take_succ_cons, List.take_zero, List.drop_succ_cons] at k0 k1
 obtain ⟨n, hn, -, -⟩ := DataW.trod_int Tryz.underlying3 k0
 obtain rfl : c0 = .int .i64 n := by simpa using hn
 obtain ⟨rows, hr, -, ht⟩ := open_rows Tryz.underlying22 edgeCells (by decide) k1
 rw [eRows_of fun r hr' => (hr r hr').1] at ht
 obtain ⟨ls, -, hl⟩ := open_rows2 Tryz.underlying25 Tryz.underlying40 hCi intCell g1
 refine ⟨⟨n, rows.map toE, ls⟩, #[.int .i64 n, c1, c2], rfl, rfl, fun j c u hc hu => ?_⟩
 match j, hc, hu with
 | 0, hc, hu => simp at hc hu; subst hc hu; exact .int _ _
 | 1, hc, hu => simp at hc hu; subst hc hu; exact ht
 | 2, hc, hu => simp at hc hu; subst hc hu; exact hl
 | k + 3, hc, hu => simp at hc
end Go.Proofs.YtfkegnhpihoncaaGreat
