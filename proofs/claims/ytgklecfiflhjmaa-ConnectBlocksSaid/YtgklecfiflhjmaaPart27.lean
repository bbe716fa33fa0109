/- A part of the proof. -/
import Derived.Test.YtgklecfiflhjmaaPart22
import Derived.Test.YtgklecfiflhjmaaPart24
import Derived.Test.YtgklecfiflhjmaaPart26
import Derived.Test.YtgklecfiflhjmaaPart11
import Derived.Test.YtgklecfiflhjmaaPart13
import Derived.Test.YtgklecfiflhjmaaPart15
import Derived.Test.YtgklecfiflhjmaaLayerC
import Derived.Test.YtgklecfiflhjmaaPart06
import Derived.Test.YtgklecfiflhjmaaPart19
import Derived.Test.YtgklecfiflhjmaaPart18
import Derived.Test.YtgklecfiflhjmaaPart16
import Derived.Test.YtgklecfiflhjmaaPart12
set_option linter.all false
set_option maxHeartbeats 4000000
set_option maxRecDepth 100000
namespace Go.Proofs.Ytgklecfiflhjmaa
open Go.Sp
def OffE (L : List (Nat × Nat)) (e : Nat) (K : List (Int × Int)) : Prop := ∀ p : Int × Int, p ∈ K ↔ ∃ f, f < L.length ∧ f ≠ e ∧ p = (((edL L f).1 : Int), ((edL L f).2 : Int))
section
variable {L : List (Nat × Nat)} {e : Nat} {K : List (Int × Int)}
theorem path_of (P : Nat → Prop) (hK : ∀ p : Int × Int, p ∈ K → ∃ f, f < L.length ∧ P f ∧ p = (((edL L f).1 : Int), ((edL L f).2 : Int))) {u v : Nat} (h : Conn K u v) : ∃ A, SupA L A ∧ (∀ f, A f = true → P f) ∧ ∀ S, cross L A S = xor (S u) (S v) := by
 induction h with
 | refl => exact ⟨fun _ => false, fun f h => by (cases h), fun f h => by (cases h), fun S => by rw [Bool.xor_self]; exact xsb_false _⟩
 | step hc hs ih =>
  rename_i b c
  obtain ⟨A, a1, a2, a3⟩ := ih
  obtain ⟨f, f1, f2, f3⟩ : ∃ f, f < L.length ∧ P f ∧ ∀ S : Nat → Bool, crs L S f = xor (S b) (S c) := by
   rcases hs with hs | hs
   ·obtain ⟨f, f1, f2, f3⟩ := hK _ hs
    have q1 := congrArg Prod.fst f3
    have q2 := congrArg Prod.snd f3
    simp only at q1 q2
    refine ⟨f, f1, f2, fun S => ?_⟩
    unfold crs
    rw [show (edL L f).1 = b by omega, show (edL L f).2 = c by omega]
   ·obtain ⟨f, f1, f2, f3⟩ := hK _ hs
    have q1 := congrArg Prod.fst f3
    have q2 := congrArg Prod.snd f3
    simp only at q1 q2
    refine ⟨f, f1, f2, fun S => ?_⟩
    unfold crs
    rw [show (edL L f).1 = c by omega, show (edL L f).2 = b by omega, Bool.xor_comm]
  refine ⟨xorA A (oneA f), a1.xor (SupA.one f1), fun x hx => ?_, fun S => ?_⟩
  ·unfold xorA oneA at hx
   by_cases q : x = f
   ·rw [q]; exact f2
   ·rw [decide_eq_false q, Bool.xor_false] at hx; exact a2 x hx
  ·rw [cross_xor, a3, cross_one L f1, f3]
   cases S u <;> cases S b <;> cases S c <;> rfl
theorem even_in (hf : e < L.length) {A : Nat → Bool} (h1 : SupA L A) (h2 : A e = false) (h3 : ∀ S, cross L A S = crs L S e) : ∃ C, Circ L C ∧ C e = true ∧ ∀ f, C f = true → f = e ∨ A f = true := by
 obtain ⟨C, c1, c2, c3⟩ := circ_in (A := xorA A (oneA e)) (h1.xor (SupA.one hf)) (fun S => by rw [cross_xor, h3, cross_one L hf, Bool.xor_self]) (e := e) (by unfold xorA oneA; rw [h2, decide_eq_true rfl]; rfl)
 refine ⟨C, c1, c2, fun f hC => ?_⟩
 have := c3 f hC
 unfold xorA oneA at this
 by_cases q : f = e
 ·exact .inl q
 ·rw [decide_eq_false q, Bool.xor_false] at this; exact .inr this
theorem Circ.other {C : Nat → Bool} (h : Circ L C) (he : C e = true) (hn : NL L e) : ∃ f, f ≠ e ∧ C f = true := by
 refine Classical.byContradiction fun hx => ?_
 have hf : ∀ f, f ≠ e → C f = false := fun f hf => by
  cases q : C f with
  | false => rfl
  | true => exact absurd ⟨f, hf, q⟩ hx
 have h1 := h.ev (fun x => decide (x = (edL L e).1))
 unfold cross at h1
 rw [xsb_one (i := e) (fun f hf' => by rw [hf f hf']; rfl) hn.1, he, Bool.true_and] at h1
 unfold crs at h1
 simp only at h1
 rw [decide_eq_false (show ¬ (edL L e).2 = (edL L e).1 from fun q => hn.2 q.symm)] at h1
 simp at h1
theorem off_circ (hK : OffE L e K) (hn : NL L e) : (¬ Conn K (edL L e).1 (edL L e).2) ↔ ∀ f, Rel L e f → f = e := by
 constructor
 ·intro h f hr
  rcases hr with q | ⟨C, h1, h2, h3⟩
  ·exact q.symm
  ·refine Classical.byContradiction fun hne => ?_
   classical
   have hev := h1.ev (fun x => decide (Conn K (edL L e).1 x))
   unfold cross at hev
   rw [xsb_one (i := e) (fun g hg => ?_) hn.1, h2, Bool.true_and] at hev
   ·unfold crs at hev
    simp only at hev
    rw [decide_eq_true Conn.refl, decide_eq_false h] at hev
    cases hev
   ·cases hC : C g with
    | false => rfl
    | true =>
     have hgl := h1.sup g hC
     have hm := (hK _).2 ⟨g, hgl, hg, rfl⟩
     rw [Bool.true_and]
     unfold crs
     simp only
     rw [decide_eq_decide.2 (show Conn K (edL L e).1 (edL L g).1 ↔ Conn K (edL L e).1 (edL L g).2 from ⟨fun q => q.step (.inl hm), fun q => q.step (.inr hm)⟩), Bool.xor_self]
 ·intro h hc
  obtain ⟨A, a1, a2, a3⟩ := path_of (P := fun f => f ≠ e) (fun p hp => by obtain ⟨f, f1, f2, f3⟩ := (hK p).1 hp; exact ⟨f, f1, f2, f3⟩) hc
  have hAe : A e = false := by
   cases q : A e with
   | false => rfl
   | true => exact absurd rfl (a2 e q)
  obtain ⟨C, c1, c2, _⟩ := even_in hn.1 a1 hAe (fun S => by rw [a3]; rfl)
  obtain ⟨f, f1, f2⟩ := c1.other c2 hn
  exact f1 (h f (.inr ⟨C, c1, c2, f2⟩))
end
theorem conn_le {l m : List (Int × Int)} (h : ∀ p, p ∈ l → p ∈ m) {u v : Nat} (hc : Conn l u v) : Conn m u v := by
 induction hc with
 | refl => exact .refl
 | step _ hs ih => exact ih.step (hs.imp (h _) (h _))
theorem ltx {S T : List Nat} (hS : S.Pairwise (· < ·)) (hT : T.Pairwise (· < ·)) (h : ∀ x, x ∈ S ↔ x ∈ T) : S = T :=
 List.Perm.eq_of_pairwise (le := fun x y : Nat => x < y) (fun a b _ _ h1 h2 => absurd h1 (by omega)) hS hT ((List.perm_ext_iff_of_nodup (hS.imp fun h e => by omega) (hT.imp fun h e => by omega)).2 h)
theorem off_less {L : List (Nat × Nat)} {e : Nat} : OffE L e (pkL (LI L) (lessL (zI (List.range L.length)) e)) := fun p => by
 unfold pkL
 rw [List.mem_map]
 have hget : ∀ f : Nat, f < L.length → (LI L).getD f (0, 0) = (((edL L f).1 : Int), ((edL L f).2 : Int)) := fun f hf => by
  unfold LI edL
  rw [List.getD_eq_getElem?_getD, List.getElem?_map, List.getElem?_eq_getElem hf, List.getD_eq_getElem?_getD, List.getElem?_eq_getElem hf]; rfl
 constructor
 ·rintro ⟨x, hx, rfl⟩
  obtain ⟨h1, h2⟩ := List.mem_filter.1 hx
  obtain ⟨f, hf, rfl⟩ := List.mem_map.1 h1
  have hfl := List.mem_range.1 hf
  refine ⟨f, hfl, fun q => ?_, ?_⟩
  ·rw [q] at h2; simp at h2
  ·rw [Int.toNat_natCast, hget f hfl]
 ·rintro ⟨f, hf, hne, rfl⟩
  refine ⟨(f : Int), List.mem_filter.2 ⟨List.mem_map.2 ⟨f, List.mem_range.2 hf, rfl⟩, decide_eq_true (by omega)⟩, ?_⟩
  rw [Int.toNat_natCast, hget f hf]
theorem brF_iff {g : G} {n : Nat} {L : List (Nat × Nat)} (hc : checkG g = 0) (h : NG g n L) (hm : L.length ≤ 40) {e : Nat} (he : e < L.length) :
  partsN g.es n n < partsN (lessG g e).es n n ↔ NL L e ∧ ∀ f, Rel L e f → f = e := by
 have hEl : (endsL g.es).length = L.length := by rw [h.ends]; simp [LI]
 have hin := less_in (m := (endsL g.es).length) e
 have hll := lessL_len (zI (List.range (endsL g.es).length)) e
 rw [zI_len, List.length_range] at hll
 have hwc := with_check hc hin (by omega)
 rw [parts_ncls hc h.hn, parts_ncls (g := lessG g e) hwc.1 h.hn]
 have e1 : ncls n (Conn (endsL (lessG g e).es)) = ncls n (Conn (pkL (LI L) (lessL (zI (List.range L.length)) e))) := ncls_congr fun x y _ _ => by
  have := with_conn hc hin (u := x) (w := y)
  rw [hEl, h.ends] at this
  unfold lessG
  rw [hEl]
  exact this
 rw [e1]
 have hK := off_less (L := L) (e := e)
 generalize pkL (LI L) (lessL (zI (List.range L.length)) e) = K at *
 have hme : (((edL L e).1 : Int), ((edL L e).2 : Int)) ∈ LI L := by
  unfold LI edL
  rw [List.getD_eq_getElem?_getD, List.getElem?_eq_getElem he]
  exact List.mem_map.2 ⟨L[e], List.getElem_mem he, rfl⟩
 have hall : ∀ f, f < L.length → (((edL L f).1 : Int), ((edL L f).2 : Int)) ∈ LI L := fun f hf => by
  unfold LI edL
  rw [List.getD_eq_getElem?_getD, List.getElem?_eq_getElem hf]
  exact List.mem_map.2 ⟨L[f], List.getElem_mem hf, rfl⟩
 have hab : (edL L e).1 < n ∧ (edL L e).2 < n := by
  have hm : edL L e ∈ L := by unfold edL; rw [List.getD_eq_getElem?_getD, List.getElem?_eq_getElem he]; exact List.getElem_mem he
  exact h.lt _ hm
 have e2 : ncls n (Conn (endsL g.es)) = ncls n (Conn (K ++ [(((edL L e).1 : Int), ((edL L e).2 : Int))])) := ncls_congr fun x y _ _ => by
  rw [h.ends]
  refine ⟨conn_le fun p hp => ?_, conn_le fun p hp => ?_⟩
  ·obtain ⟨q, hq, rfl⟩ := List.mem_map.1 hp
   obtain ⟨f, hf, rfl⟩ := List.getElem_of_mem hq
   have hE : edL L f = L[f] := by unfold edL; rw [List.getD_eq_getElem?_getD, List.getElem?_eq_getElem hf]; rfl
   rw [List.mem_append]
   by_cases q : f = e
   ·subst q
    right; rw [hE]; simp
   ·left
    exact (hK _).2 ⟨f, hf, q, by rw [hE]⟩
  ·rcases List.mem_append.1 hp with hp | hp
   ·obtain ⟨f, f1, _, rfl⟩ := (hK p).1 hp
    exact hall f f1
   ·rw [List.mem_singleton.1 hp]; exact hme
 rw [e2]
 have key : ncls n (Conn (K ++ [(((edL L e).1 : Int), ((edL L e).2 : Int))])) < ncls n (Conn K) ↔ ¬ Conn K (edL L e).1 (edL L e).2 := by
  by_cases hC : Conn K (edL L e).1 (edL L e).2
  ·rw [ncls_snoc_in hC]
   exact ⟨fun q => absurd q (Nat.lt_irrefl _), fun q => absurd hC q⟩
  ·have := ncls_snoc_new hab.1 hab.2 hC
   exact ⟨fun _ => hC, fun _ => by omega⟩
 rw [key]
 by_cases hn : (edL L e).1 = (edL L e).2
 ·exact ⟨fun q => absurd (by rw [hn]; exact .refl) q, fun q => absurd hn q.1.2⟩
 ·rw [off_circ hK ⟨he, hn⟩]
  exact ⟨fun q => ⟨⟨he, hn⟩, q⟩, fun q => q.2⟩
def woL (es : List E) (v : Int) : List E := es.filter fun e => decide (e.a ≠ v) && decide (e.b ≠ v)
theorem woL_len (es : List E) (v : Int) : (woL es v).length ≤ es.length := List.length_filter_le _ _
theorem without_ok (g : G) (v : Int) (hl : g.es.length < 2 ^ 40) : ACall Try.prog 52 [tG g, tint v] (tG ⟨g.n, woL g.es v⟩) := by
 obtain ⟨n, es⟩ := g
 simp only at hl ⊢
 refine ACall.of_body Try.func52 rfl (by kernel_rfl) ?_
 simp only [entry, Try.ntmps52, tG, tint]
 refine zU ?_
 refine zR trivial trivial trivial ?_
 refine AWp.weak (Weak.openB 2 1 3 rfl rfl (by omega)) ?_
 simp only [List.set_cons_succ, List.set_cons_zero, List.length_cons, List.length_nil, List.length_append, Nat.reduceAdd, List.cons_append, List.nil_append]
 have hj0 : woL (es.take 0) v = [] := rfl
 refine AWp.loopS (α:=Nat) 46 (fun i=>[(1,.c (.int .i64 v)),(2,.c (.ptr 0 0)),(4,.c (.ptr 1 0)),(5,.c (.ptr 2 0)),(6,.c (.int .i64 (i : Int)))]) (fun i=>[.box [.int .i64 n, .slice (eRows es) .none], .box [.int .i64 0, .nils], .box [.int .i64 n, .slice (eRows (woL (es.take i) v)) (.chain 3)], .chain (woL (es.take i) v).length 3]) (fun i=>i ≤ es.length) (fun i=>es.length - i) (0) (hk:=Weak.headL 4 46 [1, 2, 4, 5, 6] zW) (h0:=?_) (round:=fun i hI=>?_)
 ·exact Nat.zero_le _
 ·have hi : i ≤ es.length := hI
  clear hI
  by_cases hlt : i < es.length
  ·have hltI : (i : Int) < (es.length : Int) := by omega
   have e0 := List.getElem?_eq_getElem hlt
   have e1 := eRows_get e0
   have hsn : woL (es.take (i + 1)) v = if es[i].a ≠ v ∧ es[i].b ≠ v then woL (es.take i) v ++ [es[i]] else woL (es.take i) v := by
    unfold woL; rw [List.take_succ_eq_append_getElem hlt, List.filter_append, List.filter_cons]
    by_cases h : es[i].a = v <;> by_cases h2 : es[i].b = v <;> simp [h, h2]
   have hml : (woL (es.take i) v).length ≤ i := Nat.le_trans (woL_len _ _) (by rw [List.length_take]; omega)
   generalize es[i] = x at *
   generalize hM2 : woL (es.take (i + 1)) v = M2 at *
   generalize woL (es.take i) v = M at *
   obtain ⟨a, b, m⟩ := x
   simp only at hsn e1
   by_cases ha : a = v
   ·rw [if_neg fun q => q.1 ha] at hsn
    subst ha
    refine zR (zc @hltI (zc @e1 (zc @eRows_len trivial))) trivial trivial ?_
    refine ⟨i + 1,Weak.headF 4 46 [1, 2, 4, 5, 6] (zc @hM2 (zc @hsn trivial)) zW,?_,?_⟩
    ·exact hlt
    ·omega
   ·by_cases hb : b = v
    ·rw [if_neg fun q => q.2 hb] at hsn
     subst hb
     refine zR (zc @hltI (zc @e1 (zc @eRows_len (zc @ha trivial)))) trivial trivial ?_
     refine ⟨i + 1,Weak.headF 4 46 [1, 2, 4, 5, 6] (zc @hM2 (zc @hsn trivial)) zW,?_,?_⟩
     ·exact hlt
     ·omega
    ·rw [if_pos ⟨ha, hb⟩] at hsn
     have hes := eRows_snoc M ⟨a, b, m⟩
     rw [← hsn] at hes
     have hln : M2.length = M.length + 1 := by rw [hsn]; simp
     refine zRc (zc @hltI (zc @e1 (zc @ha (zc @hb (zc @eRows_len trivial))))) trivial @eRows_k' ?_
     rw [hes]
     refine ⟨i + 1,Weak.headF 4 46 [1, 2, 4, 5, 6] (zc @hM2 (zc @hln trivial)) zW,?_,?_⟩
     ·exact hlt
     ·omega
  ·have hnl : ¬ (i : Int) < (es.length : Int) := by omega
   have ei : i = es.length := by omega
   subst ei
   rw [List.take_length]
   refine zR (zc @hnl (zc @eRows_len trivial)) trivial trivial ?_
   simp [Rets, aret, Blk.cells, ty, Try.results52, ares, toT1, toT, borrow, borrow0, capCell, toTree0, tG]
def degR (es : List E) (n : Nat) (v : Nat) : Int := valR es v n + 2 * cntL es v v
def tchN (es : List E) (n k : Nat) : Nat := (List.range k).countP fun v => decide (degR es n v = 2)
theorem tchN_succ (es : List E) (n k : Nat) : tchN es n (k + 1) = tchN es n k + if degR es n k = 2 then 1 else 0 := by
 unfold tchN
 rw [List.range_succ, List.countP_append, List.countP_cons, List.countP_nil]
 by_cases h : degR es n k = 2 <;> simp [h]
theorem tchN_le (es : List E) (n k : Nat) : tchN es n k ≤ k := by
 unfold tchN
 exact Nat.le_trans List.countP_le_length (by simp)
def cycB (es : List E) (n m : Nat) : Bool := (List.range n).all (fun v => decide (degR es n v = 0 ∨ degR es n v = 2)) && decide (0 < m) && decide ((partsN es n n : Int) = (n : Int) - tchN es n n + 1)
theorem IsCycle_ok (g : G) (n : Nat) (t : List Int) (hc : checkG g = 0) (hn : g.n = n) (hl : g.es.length ≤ 40) (ht : ∀ x, x ∈ t → 0 ≤ x ∧ x < (endsL g.es).length) (htl : t.length ≤ 40) : ACall Try.prog 80 [tG g, tints t] (tbool (cycB (withG g t).es n t.length)) := by
 have h12 := (checkG_zero.1 hc).1
 have hW := With_ok g t hl hc ht (by omega)
 have hwc := with_check hc ht (by omega)
 have hD := fun v : Nat => DegreeR_ok (withG g t) n hwc.1 hn (by omega) v
 have hP := Parts_ok (withG g t) n hwc.1 hn (by omega)
 have hwn : (withG g t).n = n := hn
 clear hwc
 generalize withG g t = W at *
 obtain ⟨wn, we⟩ := W
 simp only at hwn
 subst hwn
 change ∀ v : Nat, ACall _ _ _ (tint (degR we n v)) at hD
 obtain ⟨nI, es⟩ := g
 simp only at hn h12 hl hP hD ⊢
 subst hn
 have hpl := partsN_le we n n
 refine ACall.of_body Try.func80 rfl (by kernel_rfl) ?_
 simp only [entry, Try.ntmps80, tG, tints]
 refine zU ?_
 refine zR trivial (zc hW trivial) trivial ?_
 refine AWp.loopS (α:=Nat) 44 (fun v=>[(1,.c (.slice (iRows t) .none)),(2,.c (.ptr 0 0)),(5,.c (.ptr 1 0)),(6,.c (.int .i64 (tchN we n v : Int))),(7,.c (.int .i64 (v : Int)))]) (fun v=>[.box [.int .i64 (n : Int), .slice (eRows es) .none], .box [.int .i64 (n : Int), .slice (eRows we) .none]]) (fun v=>v ≤ n ∧ ∀ u, u < v → degR we n u = 0 ∨ degR we n u = 2) (fun v=>n - v) (0) (hk:=Weak.headL 2 44 [1, 2, 5, 6, 7] zW) (h0:=?_) (round:=fun v hI=>?_)
 ·exact ⟨Nat.zero_le _, fun u hu => by omega⟩
 ·obtain ⟨hv, hall⟩ := hI
  have htc := tchN_le we n v
  by_cases hlt : v < n
  ·have hltI : (v : Int) < (n : Int) := by omega
   have hDv := hD v
   have hts := tchN_succ we n v
   obtain ⟨d, hd⟩ : ∃ d, degR we n v = d := ⟨_, rfl⟩
   rw [hd] at hDv hts
   by_cases h0 : d = 0
   ·subst h0
    have hts2 : tchN we n (v + 1) = tchN we n v := by rw [hts, if_neg (by decide)]; rfl
    clear hts
    repeat' (first|((first|(refine zT ?_;intro K' hK')|(refine zG ?_ ?_<;>(try refine zH ?_)<;>intro hguard<;>(try exact zX)<;>try intro K' hK'))<;>((try simp +contextual only [go_sem, hltI]);(repeat' first|(with_reducible refine hK' _ _ ?_;clear hK' K')|(with_reducible refine zK hDv ?_;try simp +contextual only [go_sem, hltI])|exact zY|with_reducible refine And.intro ?_ ?_|(with_reducible intro hpath;try exact zP)|(refine hK' _ _ ?_;clear hK' K')|fail);try refine zS ?_))|(refine zE ?_;refine hK _ _ ?_;clear hK K)|(refine zN ?_;try refine zS ?_)|refine zA ?_|(refine zB ?_;intro K hK)|(refine zC ?_ ?_<;>(try refine zH ?_)<;>intro hcond<;>try exact zX)|fail)
    refine ⟨v + 1,Weak.headF 2 44 [1, 2, 5, 6, 7] (zc @hts2 trivial) zW,?_,?_⟩
    ·refine ⟨hlt, fun u hu => ?_⟩
     by_cases q : u = v
     ·rw [q]; exact .inl hd
     ·exact hall u (by omega)
    ·omega
   ·by_cases h2 : d = 2
    ·subst h2
     rw [if_pos rfl] at hts
     repeat' (first|((first|(refine zT ?_;intro K' hK')|(refine zG ?_ ?_<;>(try refine zH ?_)<;>intro hguard<;>(try exact zX)<;>try intro K' hK'))<;>((try simp +contextual only [go_sem, hltI]);(repeat' first|(with_reducible refine hK' _ _ ?_;clear hK' K')|(with_reducible refine zK hDv ?_;try simp +contextual only [go_sem, hltI])|exact zY|with_reducible refine And.intro ?_ ?_|(with_reducible intro hpath;try exact zP)|(refine hK' _ _ ?_;clear hK' K')|fail);try refine zS ?_))|(refine zE ?_;refine hK _ _ ?_;clear hK K)|(refine zN ?_;try refine zS ?_)|refine zA ?_|(refine zB ?_;intro K hK)|(refine zC ?_ ?_<;>(try refine zH ?_)<;>intro hcond<;>try exact zX)|fail)
     refine ⟨v + 1,Weak.headF 2 44 [1, 2, 5, 6, 7] (zc @hts trivial) zW,?_,?_⟩
     ·refine ⟨hlt, fun u hu => ?_⟩
      by_cases q : u = v
      ·rw [q]; exact .inr hd
      ·exact hall u (by omega)
     ·omega
    ·have hr : cycB we n t.length = false := by
      unfold cycB
      have : (List.range n).all (fun v => decide (degR we n v = 0 ∨ degR we n v = 2)) = false := by
       rw [List.all_eq_false]
       exact ⟨v, List.mem_range.2 hlt, by rw [hd, decide_eq_true_eq]; omega⟩
      rw [this]; rfl
     rw [hr]
     repeat' (first|((first|(refine zT ?_;intro K' hK')|(refine zG ?_ ?_<;>(try refine zH ?_)<;>intro hguard<;>(try exact zX)<;>try intro K' hK'))<;>((try simp +contextual only [go_sem, hltI, h0, h2]);(repeat' first|(with_reducible refine hK' _ _ ?_;clear hK' K')|(with_reducible refine zK hDv ?_;try simp +contextual only [go_sem, hltI, h0, h2])|exact zY|with_reducible refine And.intro ?_ ?_|(with_reducible intro hpath;try exact zP)|(refine hK' _ _ ?_;clear hK' K')|fail);try refine zS ?_))|(refine zE ?_;refine hK _ _ ?_;clear hK K)|(refine zN ?_;try refine zS ?_)|refine zA ?_|(refine zB ?_;intro K hK)|(refine zC ?_ ?_<;>(try refine zH ?_)<;>intro hcond<;>try exact zX)|fail)
     simp [Rets, aret, Blk.cells, ty, Try.results80, ares, toT1, toT, borrow, borrow0, capCell, toTree0, tbool]
  ·have hnl : ¬ (v : Int) < (n : Int) := by omega
   have ev : v = n := by omega
   subst ev
   have hA : (List.range v).all (fun u => decide (degR we v u = 0 ∨ degR we v u = 2)) = true := by
    rw [List.all_eq_true]
    intro u hu
    rw [decide_eq_true_eq]
    exact hall u (List.mem_range.1 hu)
   have hr : cycB we v t.length = (decide (0 < t.length) && decide ((partsN we v v : Int) = (v : Int) - tchN we v v + 1)) := by
    unfold cycB; rw [hA, Bool.true_and]
   rw [hr]
   generalize tchN we v v = tc at *
   generalize partsN we v v = pv at *
   by_cases hp : 0 < t.length
   ·rw [decide_eq_true hp, Bool.true_and]
    have hpI : (0 : Int) < (t.length : Int) := by omega
    repeat' (first|((first|(refine zT ?_;intro K' hK')|(refine zG ?_ ?_<;>(try refine zH ?_)<;>intro hguard<;>(try exact zX)<;>try intro K' hK'))<;>((try simp +contextual only [go_sem, hnl, iRows_len, hpI]);(repeat' first|(with_reducible refine hK' _ _ ?_;clear hK' K')|(with_reducible refine zK hP ?_;try simp +contextual only [go_sem, hnl, iRows_len, hpI])|exact zY|with_reducible refine And.intro ?_ ?_|(with_reducible intro hpath;try exact zP)|(refine hK' _ _ ?_;clear hK' K')|fail);try refine zS ?_))|(refine zE ?_;refine hK _ _ ?_;clear hK K)|(refine zN ?_;try refine zS ?_)|refine zA ?_|(refine zB ?_;intro K hK)|(refine zC ?_ ?_<;>(try refine zH ?_)<;>intro hcond<;>try exact zX)|fail)
    simp [Rets, aret, Blk.cells, ty, Try.results80, ares, toT1, toT, borrow, borrow0, capCell, toTree0, tbool]
   ·rw [decide_eq_false hp, Bool.false_and]
    have hpI : ¬ (0 : Int) < (t.length : Int) := by omega
    repeat' (first|((first|(refine zT ?_;intro K' hK')|(refine zG ?_ ?_<;>(try refine zH ?_)<;>intro hguard<;>(try exact zX)<;>try intro K' hK'))<;>((try simp +contextual only [go_sem, hnl, iRows_len, hpI]);(repeat' first|(with_reducible refine hK' _ _ ?_;clear hK' K')|(with_reducible refine zK hP ?_;try simp +contextual only [go_sem, hnl, iRows_len, hpI])|exact zY|with_reducible refine And.intro ?_ ?_|(with_reducible intro hpath;try exact zP)|(refine hK' _ _ ?_;clear hK' K')|fail);try refine zS ?_))|(refine zE ?_;refine hK _ _ ?_;clear hK K)|(refine zN ?_;try refine zS ?_)|refine zA ?_|(refine zB ?_;intro K hK)|(refine zC ?_ ?_<;>(try refine zH ?_)<;>intro hcond<;>try exact zX)|fail)
    simp [Rets, aret, Blk.cells, ty, Try.results80, ares, toT1, toT, borrow, borrow0, capCell, toTree0, tbool]
def OffV (L : List (Nat × Nat)) (v : Nat) (K : List (Int × Int)) : Prop := ∀ p : Int × Int, p ∈ K ↔ ∃ f, f < L.length ∧ ¬ tch L f v ∧ p = (((edL L f).1 : Int), ((edL L f).2 : Int))
section
variable {L : List (Nat × Nat)} {v : Nat} {K : List (Int × Int)}
theorem OffV.iso (hK : OffV L v K) {x : Nat} (h : Conn K x v) : x = v := by
 cases h with
 | refl => rfl
 | step _ hs =>
  exfalso
  rcases hs with hs | hs
  ·obtain ⟨f, _, f2, f3⟩ := (hK _).1 hs
   have q := congrArg Prod.snd f3
   simp only at q
   exact f2 (.inr (by omega))
  ·obtain ⟨f, _, f2, f3⟩ := (hK _).1 hs
   have q := congrArg Prod.fst f3
   simp only at q
   exact f2 (.inl (by omega))
theorem OffV.step (hK : OffV L v K) {f x a b : Nat} (hf : f < L.length) (hv : ¬ tch L f v) (ha : tch L f a) (hb : tch L f b) (h : Conn K x a) : Conn K x b := by
 have hm := (hK _).2 ⟨f, hf, hv, rfl⟩
 rcases ha with rfl | rfl <;> rcases hb with rfl | rfl
 ·exact h
 ·exact h.step (.inl hm)
 ·exact h.step (.inr hm)
 ·exact h
theorem rel_off (hK : OffV L v K) {e f x y : Nat} (he : NL L e) (hf : NL L f) (hev : tch L e v) (hfv : tch L f v) (hex : tch L e x) (hfy : tch L f y) (hx : x ≠ v) (hy : y ≠ v) : Rel L e f ↔ Conn K x y := by
 have same : e = f → x = y := fun q => by
  subst q
  rcases tch_two hev hex (Ne.symm hx) hfy with q | q
  ·exact absurd q hy
  ·exact q.symm
 constructor
 ·rintro (q | ⟨C, h1, h2, h3⟩)
  ·rw [same q]; exact .refl
  ·refine Classical.byContradiction fun hn => ?_
   classical
   have hB : ∀ g, g ∈ (List.range L.length).filter (fun g => decide (∃ u, tch L g u ∧ Conn K x u)) ↔ g < L.length ∧ ∃ u, tch L g u ∧ Conn K x u := fun g => by
    rw [List.mem_filter, List.mem_range, decide_eq_true_eq]
   generalize (List.range L.length).filter (fun g => decide (∃ u, tch L g u ∧ Conn K x u)) = B at hB
   have hev' := even_part h1 (B := B) (a := v) fun z g g' c1 b1 t1 c2 b2 t2 => by
    obtain ⟨gl, u, tu, cu⟩ := (hB g).1 b1
    have hz : ¬ Conn K x z := fun q => b2 ((hB g').2 ⟨h1.sup g' c2, z, t2, q⟩)
    by_cases tv : tch L g v
    ·rcases tch_two tu t1 (fun q => hz (q ▸ cu)) tv with q | q
     ·exact absurd (hK.iso (q ▸ cu)) hx
     ·exact q.symm
    ·exact absurd (hK.step gl tv tu t1 cu) hz
   have heB : e ∈ B := (hB e).2 ⟨he.1, x, hex, .refl⟩
   have := h1.mn (fun g => C g && decide (g ∈ B)) (fun g hg => by rw [Bool.and_eq_true] at hg; exact hg.1) hev' ⟨e, by rw [h2, decide_eq_true heB]; rfl⟩ f h3
   rw [h3, Bool.true_and, decide_eq_true_eq] at this
   obtain ⟨_, u, tu, cu⟩ := (hB f).1 this
   rcases tch_two hfv hfy (Ne.symm hy) tu with q | q
   ·exact hx (hK.iso (q ▸ cu))
   ·exact hn (q ▸ cu)
 ·intro hc
  by_cases q : e = f
  ·exact .inl q
  obtain ⟨A, a1, a2, a3⟩ := path_of (P := fun g => ¬ tch L g v) (fun p hp => (hK p).1 hp) hc
  have hAe : A e = false := by
   cases r : A e with
   | false => rfl
   | true => exact absurd hev (a2 e r)
  obtain ⟨C, c1, c2, c3⟩ := even_in he.1 (A := xorA A (oneA f)) (a1.xor (SupA.one hf.1)) (by unfold xorA oneA; rw [hAe, decide_eq_false q]; rfl) (fun S => by
   rw [cross_xor, a3, cross_one L hf.1, crs_ends S hfv hfy (Ne.symm hy), crs_ends S hev hex (Ne.symm hx)]
   cases S x <;> cases S y <;> cases S v <;> rfl)
  refine .inr ⟨C, c1, c2, Classical.byContradiction fun hCf => ?_⟩
  have hev2 := c1.ev (fun u => decide (u = v))
  unfold cross at hev2
  rw [xsb_one (i := e) (fun g hg => ?_) he.1, c2, Bool.true_and, crs_ends _ hev hex (Ne.symm hx)] at hev2
  ·simp [hx] at hev2
  ·cases hC : C g with
   | false => rfl
   | true =>
    have hgv : ¬ tch L g v := by
     rcases c3 g hC with r | r
     ·exact absurd r hg
     ·unfold xorA oneA at r
      by_cases gf : g = f
      ·exact absurd (gf ▸ hC) hCf
      ·rw [decide_eq_false gf, Bool.xor_false] at r
       exact a2 g r
    rw [Bool.true_and]
    unfold crs
    simp only
    rw [decide_eq_false (show ¬ (edL L g).1 = v from fun r => hgv (.inl r)), decide_eq_false (show ¬ (edL L g).2 = v from fun r => hgv (.inr r))]; rfl
end
section
variable {L : List (Nat × Nat)} {n : Nat}
theorem brI_mem (hn : n ≤ 12) (hL : ∀ p, p ∈ L → p.1 < n ∧ p.2 < n) {e : Nat} : e ∈ brI L (blocksB L n) ↔ NL L e ∧ ∀ f, Rel L e f → f = e := by
 obtain ⟨nb, h1, h2⟩ := blkF hn hL
 have hmem : ∀ B, B ∈ blocksB L n ↔ B ∈ loopsB L ∨ B ∈ nb := fun B => by
  unfold blocksB
  rw [(isortL_perm _).mem_iff, h1, List.mem_append]
 unfold brI
 rw [List.mem_map]
 constructor
 ·rintro ⟨B, hB, rfl⟩
  rw [List.mem_filter, hmem] at hB
  obtain ⟨hB, hb⟩ := hB
  unfold isBr at hb
  rw [Bool.and_eq_true, decide_eq_true_eq, decide_eq_true_eq] at hb
  obtain ⟨x, rfl⟩ := List.length_eq_one_iff.1 hb.1
  have hx : (edL L x).1 ≠ (edL L x).2 := hb.2
  rcases hB with hB | hB
  ·obtain ⟨y, q, _, q2⟩ := loopsB_mem.1 hB
   have : x = y := by simpa using q
   subst this
   exact absurd q2 hx
  ·have hxm : x ∈ nb.flatten := List.mem_flatten.2 ⟨[x], hB, by simp⟩
   refine ⟨(h2.mem x).1 hxm, fun f hf => ?_⟩
   have := (h2.cls hB (e := x) (by simp) f).2 hf
   simpa using this
 ·rintro ⟨hnl, hall⟩
  obtain ⟨B, hB, heB⟩ := List.mem_flatten.1 ((h2.mem e).2 hnl)
  have hB1 : B = [e] := by
   have hs := h2.srt B hB
   have hm : ∀ f, f ∈ B → f = e := fun f hf => hall f ((h2.cls hB heB f).1 hf)
   match B, hB, heB, hs, hm with
   | [], _, q, _, _ => cases q
   | [x], _, _, _, hm => rw [hm x (by simp)]
   | x :: y :: l, _, _, hs, hm =>
    have q1 := hm x (by simp)
    have q2 := hm y (by simp)
    have := List.rel_of_pairwise_cons hs (a' := y) (by simp)
    omega
  subst hB1
  refine ⟨[e], List.mem_filter.2 ⟨(hmem _).2 (.inr hB), ?_⟩, rfl⟩
  unfold isBr
  rw [Bool.and_eq_true, decide_eq_true_eq, decide_eq_true_eq]
  exact ⟨rfl, hnl.2⟩
theorem brI_sorted (hn : n ≤ 12) (hL : ∀ p, p ∈ L → p.1 < n ∧ p.2 < n) : (brI L (blocksB L n)).Pairwise (· < ·) := by
 obtain ⟨nb, h1, h2⟩ := blkF hn hL
 have hs := (isortL_sorted (allB' L n).out).filter (isBr L)
 have hnd : ((blocksB L n).filter (isBr L)).Nodup := by
  have hp : ((blocksB L n).filter (isBr L)).Perm (nb.filter (isBr L)) := by
   have := (isortL_perm (allB' L n).out).filter (isBr L)
   unfold blocksB
   refine this.trans ?_
   have h0 : (loopsB L).filter (isBr L) = [] := List.filter_eq_nil_iff.2 fun B hB => by
    obtain ⟨y, rfl, _, q2⟩ := loopsB_mem.1 hB
    unfold isBr
    simp only [List.getD_cons_zero]
    rw [show decide ((edL L y).1 ≠ (edL L y).2) = false from decide_eq_false (fun q => q q2), Bool.and_false]; simp
   rw [h1, List.filter_append, h0, List.nil_append]
  refine hp.nodup_iff.2 (List.Pairwise.filter _ ?_)
  have := h2.nd
  have := (List.pairwise_flatten.1 this).2
  refine this.imp_of_mem fun {a b} ha hb hd q => ?_
  subst q
  obtain ⟨x, hx⟩ := List.exists_mem_of_ne_nil _ (h2.ne a ha)
  exact hd x hx x hx rfl
 unfold brI
 rw [List.pairwise_map]
 refine (hs.and hnd).imp_of_mem fun {a b} ha hb h => ?_
 have one : ∀ B, B ∈ (isortL (allB' L n).out).filter (isBr L) → ∃ x, B = [x] := fun B hB => by
  have hb := (List.mem_filter.1 hB).2
  unfold isBr at hb
  rw [Bool.and_eq_true, decide_eq_true_eq] at hb
  exact List.length_eq_one_iff.1 hb.1
 obtain ⟨x, rfl⟩ := one a ha
 obtain ⟨y, rfl⟩ := one b hb
 have q1 := h.1
 have q2 := h.2
 simp only [befN, Bool.and_false, Bool.or_false, decide_eq_false_iff_not] at q1
 have q3 : x ≠ y := fun q => q2 (by rw [q])
 show x < y
 omega
end
theorem bridges_eq {g : G} {n : Nat} {L : List (Nat × Nat)} (hc : checkG g = 0) (h : NG g n L) (hm : L.length ≤ 40) : brI L (blocksB L n) = brF g n L.length := by
 refine ltx (brI_sorted h.h12 h.lt) (List.pairwise_lt_range.filter _) fun e => ?_
 rw [brI_mem h.h12 h.lt]
 unfold brF
 rw [List.mem_filter, List.mem_range, decide_eq_true_eq]
 constructor
 ·intro q
  exact ⟨q.1.1, (brF_iff hc h hm q.1.1).2 q⟩
 ·rintro ⟨he, q⟩
  exact (brF_iff hc h hm he).1 q
theorem wo_check {g : G} (hc : checkG g = 0) (v : Int) : checkG ⟨g.n, woL g.es v⟩ = 0 := by
 obtain ⟨h1, h2, h3⟩ := checkG_zero.1 hc
 exact checkG_zero.2 ⟨h1, fun e he => h2 e (List.mem_filter.1 he).1, h3.filter _⟩
def arR (es : List E) (n v : Nat) : List Bool := reachL (woL es v) n ((neiR es v n).getD 0 0).toNat
def arB (es : List E) (n v : Nat) : Bool := ((neiR es v n).drop 1).any fun x => !(arR es n v).getD x.toNat false
def arF (es : List E) (n k : Nat) : List Nat := (List.range k).filter (arB es n)
theorem arF_succ (es : List E) (n k : Nat) : arF es n (k + 1) = if arB es n k = true then arF es n k ++ [k] else arF es n k := by
 unfold arF
 rw [List.range_succ, List.filter_append]
 cases h : arB es n k <;> simp [h]
theorem arF_len (es : List E) (n k : Nat) : (arF es n k).length ≤ k := by unfold arF; exact Nat.le_trans (List.length_filter_le _ _) (by simp)
theorem nei_at {es : List E} {v n i : Nat} (h : i < (neiR es v n).length) : ∃ x : Nat, x < n ∧ (neiR es v n)[i]? = some (x : Int) := by
 have hm := (inL_mem.1 (List.getElem_mem h)).1
 exact ⟨((neiR es v n)[i]).toNat, by have := hm; omega, by rw [List.getElem?_eq_getElem h]; congr 1; have := hm; omega⟩
theorem refArticulations_ok (g : G) (n : Nat) (hc : checkG g = 0) (hn : g.n = n) (hl : g.es.length ≤ 40) : ACall Try.prog 17 [tG g] (tints (zI (arF g.es n n))) := by
 have h12 := (checkG_zero.1 hc).1
 have hN := fun v : Nat => NeighboursR_ok g n hc hn (by omega) v
 have hWo := fun v : Nat => without_ok g v (by omega)
 have hRe := fun (v x : Nat) (hx : x < n) => Reached_ok ⟨g.n, woL g.es v⟩ n x (wo_check hc v) hn hx (Nat.lt_of_le_of_lt (woL_len g.es v) (by omega))
 have hRl : ∀ (es : List E) v, (reachL es n v).length = n := fun es v => reachN_len es n v n
 obtain ⟨nI, es⟩ := g
 simp only at hn h12 hRe hWo hN hl ⊢
 subst hn
 refine ACall.of_body Try.func17 rfl (by kernel_rfl) ?_
 simp only [entry, Try.ntmps17, tG]
 refine zU ?_
 refine zR trivial trivial trivial ?_
 refine AWp.weak (Weak.opens ((fun t f => [f, f, f, t, f, f, f, f, f, f, f, f, f, f, f, f, f, f, f, f, f, f, f, f, f, f, f, f, f, f, f, f, f, f, f, f, f, f, f, f, f]) true false) 1 (by first | omega | simp)) ?_
 simp only [openS, openV, List.length_cons, List.length_nil, List.length_append, Nat.reduceAdd, List.cons_append, List.nil_append]
 refine AWp.loopS (α:=Nat) 41 (fun v=>[(1,.c (.ptr 0 0)),(3,.c (.slice (iRows (zI (arF es n v))) (.chain 1))),(4,.c (.int .i64 (v : Int)))]) (fun v=>[.box [.int .i64 (n : Int), .slice (eRows es) .none], .chain (arF es n v).length 1]) (fun v=>v ≤ n) (fun v=>n - v) (0) (hk:=Weak.headL 2 41 [1, 3, 4] zW) (h0:=?_) (round:=fun v hI=>?_)
 ·exact Nat.zero_le _
 ·have hv : v ≤ n := hI
  clear hI
  by_cases hvl : v < n
  ·have hvI : (v : Int) < (n : Int) := by omega
   have hNv := hN v
   have hWv := hWo v
   have hRv := hRe v
   have hsu := arF_succ es n v
   have hal := arF_len es n v
   have hnl0 := inL_len (neiP es v) n
   change (neiR es v n).length ≤ n at hnl0
   have hat := fun i h => nei_at (es := es) (v := v) (n := n) (i := i) h
   have hB : arB es n v = ((neiR es v n).drop 1).any fun x => !(arR es n v).getD x.toNat false := rfl
   have hRR : arR es n v = reachL (woL es v) n ((neiR es v n).getD 0 0).toNat := rfl
   have hlR := hRl (woL es v) ((neiR es v n).getD 0 0).toNat
   rw [← hRR] at hlR
   generalize arR es n v = R at *
   generalize arB es n v = bv at *
   generalize neiR es v n = nv at *
   refine zR (zc @hvI trivial) (zc hNv trivial) trivial ?_
   refine AWp.loopS (α:=Nat) 41 (fun i=>[(1,.c (.ptr 0 0)),(3,.c (.slice (iRows (zI (arF es n v))) (.chain 1))),(4,.c (.int .i64 (v : Int))),(5,.c (.slice (iRows nv) .none)),(6,.c (.int .i64 (i : Int)))]) (fun i=>[.box [.int .i64 (n : Int), .slice (eRows es) .none], .chain (arF es n v).length 1]) (fun i=>(1 ≤ i ∧ (i ≤ nv.length ∨ i = 1)) ∧ ∀ j, 1 ≤ j → j < i → ∀ x : Nat, nv[j]? = some (x : Int) → R.getD x false = true) (fun i=>nv.length - i) (1) (hk:=Weak.headL 2 41 [1, 3, 4, 5, 6] zW) (h0:=?_) (round:=fun i hI=>?_)
   ·exact ⟨⟨Nat.le_refl _, .inr rfl⟩, fun j h1 h2 => by omega⟩
   ·obtain ⟨⟨hi1, hi2⟩, hall⟩ := hI
    by_cases hil : i < nv.length
    ·have hiI : (i : Int) < (nv.length : Int) := by omega
     obtain ⟨x0, hx0, ex0⟩ := hat 0 (by omega)
     obtain ⟨x, hx, ex⟩ := hat i hil
     have r0 := iRows_get ex0
     have r1 := iRows_get ex
     have hnp : (0 : Int) < (nv.length : Int) := by omega
     have hR0 := hRv x0 hx0
     rw [List.getD_eq_getElem?_getD, ex0, Option.getD_some, Int.toNat_natCast] at hRR
     rw [← hRR] at hR0
     have rx := bRows_get (getD_bool (R := R) (i := x) (by omega))
     have hxI : (x : Int) < (n : Int) := by omega
     obtain ⟨px, hpx⟩ : ∃ px, R.getD x false = px := ⟨_, rfl⟩
     rw [hpx] at rx
     generalize woL es v = we at *
     cases px
     ·have hbt : bv = true := by
       rw [hB, List.any_eq_true]
       exact ⟨(x : Int), List.mem_of_getElem? (i := i - 1) (by rw [List.getElem?_drop, show 1 + (i - 1) = i by omega]; exact ex), by rw [Int.toNat_natCast, hpx]; rfl⟩
      rw [if_pos hbt] at hsu
      have hzs := zI_snoc (arF es n v) v
      rw [← hsu] at hzs
      have hln : (arF es n (v + 1)).length = (arF es n v).length + 1 := by rw [hsu]; simp
      generalize arF es n v = d at *
      repeat' (first|((first|(refine zT ?_;intro K' hK')|(refine zG ?_ ?_<;>(try refine zH ?_)<;>intro hguard<;>(try exact zX)<;>try intro K' hK'))<;>((try simp +contextual only [go_sem, hiI, r0, r1, rx, hnp, hxI, hlR, bRows_len, iRows_len, iRows_snoc, zI_len, Int.toNat_natCast, chunks, List.range, List.range.loop]);(repeat' first|(with_reducible refine hK' _ _ ?_;clear hK' K')|((with_reducible first|refine zK hWv ?_|refine zK hR0 ?_);try simp +contextual only [go_sem, hiI, r0, r1, rx, hnp, hxI, hlR, bRows_len, iRows_len, iRows_snoc, zI_len, Int.toNat_natCast, chunks, List.range, List.range.loop])|(with_reducible exact iRows_k' (by assumption))|exact zY|with_reducible refine And.intro ?_ ?_|(with_reducible intro hpath;try exact zP)|(refine hK' _ _ ?_;clear hK' K')|fail);try refine zS ?_))|(refine zE ?_;refine hK _ _ ?_;clear hK K)|(refine zN ?_;try refine zS ?_)|refine zA ?_|(refine zB ?_;intro K hK)|(refine zC ?_ ?_<;>(try refine zH ?_)<;>intro hcond<;>try exact zX)|fail)
      rw [hzs]
      refine ⟨v + 1,Weak.headF 2 41 [1, 3, 4] (zc @hln trivial) zW,?_,?_⟩
      ·exact hvl
      ·omega
     ·
      repeat' (first|((first|(refine zT ?_;intro K' hK')|(refine zG ?_ ?_<;>(try refine zH ?_)<;>intro hguard<;>(try exact zX)<;>try intro K' hK'))<;>((try simp +contextual only [go_sem, hiI, r0, r1, rx, hnp, hxI, hlR, bRows_len, iRows_len, zI_len, Int.toNat_natCast]);(repeat' first|(with_reducible refine hK' _ _ ?_;clear hK' K')|((with_reducible first|refine zK hWv ?_|refine zK hR0 ?_);try simp +contextual only [go_sem, hiI, r0, r1, rx, hnp, hxI, hlR, bRows_len, iRows_len, zI_len, Int.toNat_natCast])|exact zY|with_reducible refine And.intro ?_ ?_|(with_reducible intro hpath;try exact zP)|(refine hK' _ _ ?_;clear hK' K')|fail);try refine zS ?_))|(refine zE ?_;refine hK _ _ ?_;clear hK K)|(refine zN ?_;try refine zS ?_)|refine zA ?_|(refine zB ?_;intro K hK)|(refine zC ?_ ?_<;>(try refine zH ?_)<;>intro hcond<;>try exact zX)|fail)
      refine ⟨i + 1,Weak.headN 2 41 [1, 3, 4, 5, 6] zW,?_,?_⟩
      ·refine ⟨⟨by omega, .inl hil⟩, fun j h1 h2 y hy => ?_⟩
       by_cases e : j = i
       ·subst e
        rw [ex] at hy
        have : x = y := by have := Option.some.inj hy; omega
        rw [← this]; exact hpx
       ·exact hall j h1 (by omega) y hy
      ·omega
    ·have hnl : ¬ (i : Int) < (nv.length : Int) := by omega
     have hbf : bv = false := by
      rw [hB, List.any_eq_false]
      intro x hxm
      obtain ⟨j, hj, ej⟩ := List.getElem_of_mem hxm
      rw [List.length_drop] at hj
      rw [List.getElem_drop] at ej
      obtain ⟨y, hy, ey⟩ := hat (1 + j) (by omega)
      have hxy : x = (y : Int) := by rw [List.getElem?_eq_getElem (by omega)] at ey; rw [← ej]; exact Option.some.inj ey
      rw [hxy, Int.toNat_natCast, hall (1 + j) (by omega) (by omega) y ey]; simp
     rw [hbf, if_neg (by simp)] at hsu
     repeat' (first|((first|(refine zT ?_;intro K' hK')|(refine zG ?_ ?_<;>(try refine zH ?_)<;>intro hguard<;>(try exact zX)<;>try intro K' hK'))<;>((try simp +contextual only [go_sem, hnl, iRows_len]);(repeat' first|(with_reducible refine hK' _ _ ?_;clear hK' K')|exact zY|with_reducible refine And.intro ?_ ?_|(with_reducible intro hpath;try exact zP)|(refine hK' _ _ ?_;clear hK' K')|fail);try refine zS ?_))|(refine zE ?_;refine hK _ _ ?_;clear hK K)|(refine zN ?_;try refine zS ?_)|refine zA ?_|(refine zB ?_;intro K hK)|(refine zC ?_ ?_<;>(try refine zH ?_)<;>intro hcond<;>try exact zX)|fail)
     rw [← hsu]
     refine ⟨v + 1,Weak.headN 2 41 [1, 3, 4] zW,?_,?_⟩
     ·exact hvl
     ·omega
  ·have hnl : ¬ (v : Int) < (n : Int) := by omega
   have ev : v = n := by omega
   subst ev
   refine zR (zc @hnl trivial) trivial trivial ?_
   simp [Rets, aret, Blk.cells, ty, Try.results17, ares, toT1, toT, borrow, borrow0, capCell, toTree0, tints]
end Go.Proofs.Ytgklecfiflhjmaa
