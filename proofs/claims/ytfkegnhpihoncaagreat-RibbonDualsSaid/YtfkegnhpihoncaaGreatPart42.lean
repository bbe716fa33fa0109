/- A part of the proof: contracts of functions of the program, and plain lemmas. -/
import Derived.Test.YtfkegnhpihoncaaGreatPart35
import Derived.Test.YtfkegnhpihoncaaGreatPart36
import Derived.Test.YtfkegnhpihoncaaGreatPart41
import Derived.Test.YtfkegnhpihoncaaGreatLayerC
import Derived.Test.YtfkegnhpihoncaaGreatPart40
import Derived.Test.YtfkegnhpihoncaaGreatPart28
set_option linter.all false
namespace Go.Proofs.YtfkegnhpihoncaaGreat
open Go.Sp
set_option linter.unusedSimpArgs false
set_option linter.unusedVariables false
set_option maxHeartbeats 4000000
set_option maxRecDepth 100000
def allB (h : Nat) (F : List Nat) (i : Nat) : Bool := (F.take i).all fun y => decide (h ≤ y)
theorem refFaces_ok (r : R) (hs : RSm r) (hr : ROk r) : ACall Tryz.prog 17 [tR r] (tlists (facesI r)) := by
 have hlen : (endsL r.es).length ≤ 2000 := ends_len (g := r.g) hs.es hr.c
 have hp := hr.perm
 have hH : ACall Tryz.prog 22 [tG r.g] (tint (2 * ((endsL r.es).length : Int))) := refHalf_ok r.g hs.es hr.c
 have hFc := fun (h : Nat) (hh : h < 2 * (endsL r.es).length) => face_ok r hs hr h hh
 have hF : facesI r = if (endsL r.es).length = 0 then [[]] else fI (fR (endsL r.es) r.ar) (2 * (endsL r.es).length) (2 * (endsL r.es).length) := by
  unfold facesI facesR fI
  split <;> rfl
 rw [hF]
 clear hF hs hr
 obtain ⟨n, es, ar⟩ := r
 simp only [R.g] at hH hp hlen hFc ⊢
 generalize endsL es = L at *
 generalize fR L ar = f at *
 generalize hm : L.length = m at *
 have h2 : (2 : Int) * (m : Int) = ((2 * m : Nat) : Int) := by omega
 refine ACall.of_body Tryz.func17 rfl (by kernel_rfl) ?_
 simp only [entry, Tryz.ntmps17, tR]
 refine zU ?_
 by_cases hz : m = 0
 ·rw [if_pos hz]
  have hzI : (m : Int) = 0 := by omega
  refine zRc (zc @hzI trivial) (zc hH trivial) trivial ?_
  simp [Rets, aret, Blk.cells, ty, Tryz.results17, ares, toT1, toT, borrow, borrow0, capCell, toTree0, tlists, llRows, iRows]
 rw [if_neg hz]
 have hzI : ¬ ((m : Int) = 0) := by omega
 rw [h2] at hH
 have h0 : ¬ (((2 * m : Nat) : Int) = 0) := by omega
 generalize 2 * m = N at *
 refine zR (zc @h0 trivial) (zc hH trivial) trivial ?_
 refine AWp.weak (Weak.opens ((fun t f => [f, f, f, t, f, f, f, f, f, f, f, f, f, f, f, f, f, f, f, f, f, f, f, f, f, f, f, f, f, f, f, f, f, f, f, f, f, f, f, f, f, f, f, f]) true false) 1 (by first | omega | simp)) ?_
 simp only [openS, openV, List.length_cons, List.length_nil, List.length_append, Nat.reduceAdd, List.cons_append, List.nil_append]
 refine AWp.loopS (α:=Nat) 44 (fun h=>[(1,.c (.ptr 0 0)),(3,.c (.slice (llRows (fI f N h)) (.chain 1))),(4,.c (.int .i64 (h : Int)))]) (fun h=>[.box [.int .i64 n, .slice (eRows es) .none, .slice (llRows ar) .none], .chain (fI f N h).length 1]) (fun h=>h ≤ N) (fun h=>N - h) (0) (hk:=Weak.headL 2 44 [1, 3, 4] zW) (h0:=?_) (round:=fun h hI=>?_)
 ·exact Nat.zero_le _
 ·have hh : h ≤ N := hI
  clear hI
  have hfl : (fI f N h).length ≤ h := by rw [fI_len]; exact facesN_le _ _ _
  by_cases hlt : h < N
  ·have hltI : (h : Int) < (N : Int) := by omega
   have hFh := hFc h hlt
   have hsucc := fI_succ f N h
   have hFN := face_len hp hlt
   have hlb : leadB f N h = allB h (faceF f N h) (faceF f N h).length := by unfold leadB allB; rw [List.take_length]
   rw [hlb] at hsucc
   generalize faceF f N h = F at *
   have b0 : allB h F 0 = true := rfl
   refine zR (zc @hltI trivial) (zc hH (zc hFh trivial)) trivial ?_
   refine AWp.loopS (α:=Nat) 44 (fun i=>[(1,.c (.ptr 0 0)),(3,.c (.slice (llRows (fI f N h)) (.chain 1))),(4,.c (.int .i64 (h : Int))),(5,.c (.slice (iRows (natI F)) .none)),(6,.c (.bool (allB h F i))),(7,.c (.int .i64 (i : Int)))]) (fun i=>[.box [.int .i64 n, .slice (eRows es) .none, .slice (llRows ar) .none], .chain (fI f N h).length 1]) (fun i=>i ≤ F.length) (fun i=>F.length - i) (0) (hk:=Weak.headL 2 44 [1, 3, 4, 5, 6, 7] zW) (h0:=?_) (round:=fun i hI=>?_)
   ·exact Nat.zero_le _
   ·have hi : i ≤ F.length := hI
    clear hI
    have hFl2 : (natI F).length = F.length := natI_len F
    by_cases hil : i < F.length
    ·have hilI : (i : Int) < (F.length : Int) := by omega
     have e0 := List.getElem?_eq_getElem hil
     have e1 : (natI F)[i]? = some ((F[i] : Nat) : Int) := by unfold natI; rw [List.getElem?_map, e0]; rfl
     have e2 := iRows_get e1
     have hbs : allB h F (i + 1) = (allB h F i && decide (h ≤ F[i])) := by
      unfold allB; rw [List.take_succ_eq_append_getElem hil, List.all_append]; simp
     generalize F[i] = x at *
     generalize allB h F i = b at *
     generalize hb2 : allB h F (i + 1) = b' at *
     cases b with
     | false =>
      rw [Bool.false_and] at hbs
      subst hbs
      refine zR (zc @hilI (zc @iRows_len (zc @hFl2 (zc @e2 trivial)))) trivial trivial ?_
      refine ⟨i + 1,Weak.headF 2 44 [1, 3, 4, 5, 6, 7] (zc @hb2 trivial) zW,?_,?_⟩
      ·exact hil
      ·omega
     | true =>
      rw [Bool.true_and] at hbs
      by_cases hxh : h ≤ x
      ·have hxI : (h : Int) ≤ (x : Int) := by omega
       rw [decide_eq_true hxh] at hbs
       subst hbs
       refine zR (zc @hilI (zc @iRows_len (zc @hFl2 (zc @e2 (zc @hxI trivial))))) trivial trivial ?_
       refine ⟨i + 1,Weak.headF 2 44 [1, 3, 4, 5, 6, 7] (zc @hb2 trivial) zW,?_,?_⟩
       ·exact hil
       ·omega
      ·have hxI : ¬ ((h : Int) ≤ (x : Int)) := by omega
       rw [decide_eq_false hxh] at hbs
       subst hbs
       refine zR (zc @hilI (zc @iRows_len (zc @hFl2 (zc @e2 (zc @hxI trivial))))) trivial trivial ?_
       refine ⟨i + 1,Weak.headF 2 44 [1, 3, 4, 5, 6, 7] (zc @hb2 trivial) zW,?_,?_⟩
       ·exact hil
       ·omega
    ·have ei : i = F.length := by omega
     have hnl : ¬ ((i : Int) < (F.length : Int)) := by omega
     rw [← ei] at hsucc
     generalize allB h F i = b at *
     cases b with
     | false =>
      rw [if_neg (by simp)] at hsucc
      rw [← hsucc] at hfl ⊢
      refine zR (zc @hnl (zc @iRows_len (zc @hFl2 trivial))) trivial trivial ?_
      refine ⟨h + 1,Weak.headN 2 44 [1, 3, 4] zW,?_,?_⟩
      ·exact hlt
      ·omega
     | true =>
      rw [if_pos rfl] at hsucc
      have hsr := llRows_snoc (fI f N h) (natI F)
      rw [← hsucc] at hsr
      have hln : (fI f N (h + 1)).length = (fI f N h).length + 1 := by rw [hsucc]; simp
      refine zRc (zc @hnl (zc @iRows_len (zc @hFl2 (zc @llRows_len (zc @hsr trivial))))) trivial @llRows_k' ?_
      refine ⟨h + 1,Weak.headF 2 44 [1, 3, 4] (zc @hln trivial) zW,?_,?_⟩
      ·exact hlt
      ·omega
  ·have eh : h = N := by omega
   subst eh
   have hnl : ¬ ((h : Int) < (h : Int)) := by omega
   refine zR (zc @hnl trivial) (zc hH trivial) trivial ?_
   simp [Rets, aret, Blk.cells, ty, Tryz.results17, ares, toT1, toT, borrow, borrow0, capCell, toTree0, tlists]
end Go.Proofs.YtfkegnhpihoncaaGreat
set_option linter.all false
namespace Go.Proofs.YtfkegnhpihoncaaGreat
open Go.Sp
set_option linter.unusedSimpArgs false
set_option linter.unusedVariables false
noncomputable def dualG (r : R) : R := ⟨((facesR r).length : Nat), sortE (bagL (joinsR r)), dualAr r⟩
noncomputable def dD (r : R) (x : Nat) : Nat := dH (joinsR r) (ofF r) x
structure Rib (r : R) : Prop where
 ok : ROk r
 pos : 0 < (endsL r.es).length
 few : (endsL r.es).length ≤ 50
 fac : (facesR r).length ≤ 12
section
variable {r : R}
theorem Rib.fr (h : Rib r) : facesR r = facesN (fR (endsL r.es) r.ar) (2 * (endsL r.es).length) (2 * (endsL r.es).length) := by
 have := h.pos
 unfold facesR; rw [if_neg (by omega)]
theorem Rib.flen (h : Rib r) : (facesR r).length = (leadsL (fR (endsL r.es) r.ar) (2 * (endsL r.es).length) (2 * (endsL r.es).length)).length := by
 rw [h.fr]; unfold facesN; rw [List.length_map]
theorem Rib.fpos (h : Rib r) : 1 ≤ (facesR r).length := (euler_of h.ok).2.2
theorem Rib.of_bnd (h : Rib r) {x : Nat} (hx : x < 2 * (endsL r.es).length) : 0 ≤ ofF r x ∧ ofF r x < ((facesR r).length : Int) := by
 rw [h.fr]; exact Go.Proofs.YtfkegnhpihoncaaGreat.of_bnd h.ok.perm hx
theorem joins_at {e : Nat} (he : e < (endsL r.es).length) : (joinsR r)[e]? = some (ofF r (2 * e), ofF r (2 * e + 1)) := by simp [joinsR, he]
theorem Rib.joins_ok (h : Rib r) : ∀ p, p ∈ joinsR r → okP ((facesR r).length : Nat) p := fun p hp => by
 obtain ⟨e, he, rfl⟩ := List.mem_map.1 hp
 have he' := List.mem_range.1 he
 have h1 := h.of_bnd (x := 2 * e) (by omega)
 have h2 := h.of_bnd (x := 2 * e + 1) (by omega)
 unfold okP; simp only; omega
theorem dual_num {e : Nat} (he : e < (joinsR r).length) : (numI (joinsR r)).getD e 0 = (numN (joinsR r) e : Int) := by
 unfold numI
 rw [List.getD_eq_getElem?_getD, tabI_get _ he]; rfl
theorem dual_half {x : Nat} (hx : x < 2 * (endsL r.es).length) : dualH (tabI (2 * (endsL r.es).length) (ofF r)) (numI (joinsR r)) (x : Int) = (dD r x : Int) := by
 have hl := joinsR_len r
 have ho : oppH x < 2 * (endsL r.es).length := oppH_lt hx
 unfold dualH dD dH twB
 rw [Int.toNat_natCast, dual_num (by omega), List.getD_eq_getElem?_getD, List.getD_eq_getElem?_getD, tabI_get _ hx, tabI_get _ ho, Option.getD_some, Option.getD_some]
 by_cases c : ofF r (oppH x) < ofF r x ∨ (ofF r x = ofF r (oppH x) ∧ x % 2 = 1)
 ·rw [if_pos c, decide_eq_true c]; simp only [if_true]; omega
 ·rw [if_neg c, decide_eq_false c]; simp only [Bool.false_eq_true, if_false]; omega
theorem Rib.dlt (h : Rib r) {x : Nat} (hx : x < 2 * (endsL r.es).length) : dD r x < 2 * (endsL r.es).length := by
 have := dH_lt (J := joinsR r) (ofF r) (x := x) (by rw [joinsR_len]; exact hx)
 rwa [joinsR_len] at this
theorem Rib.dinj (h : Rib r) {x y : Nat} (hx : x < 2 * (endsL r.es).length) (hy : y < 2 * (endsL r.es).length) (e : dD r x = dD r y) : x = y :=
 dH_inj (J := joinsR r) (ofF r) (by rw [joinsR_len]; exact hx) (by rw [joinsR_len]; exact hy) e
theorem Rib.donto (h : Rib r) {y : Nat} (hy : y < 2 * (endsL r.es).length) : ∃ x, x < 2 * (endsL r.es).length ∧ dD r x = y := by
 have := dH_onto (J := joinsR r) (ofF r) (y := y) (by rw [joinsR_len]; exact hy)
 rwa [joinsR_len] at this
theorem dopp (x : Nat) : dD r (oppH x) = oppH (dD r x) := dH_opp _ _
theorem Rib.ends (h : Rib r) : ∃ zs, NOrd (joinsR r) zs ∧ endsL (dualG r).es = zs.map fun e => nrmP ((joinsR r).getD e (0, 0)) := by
 obtain ⟨zs, hz⟩ := nord_ex (joinsR r)
 exact ⟨zs, hz, made_ends h.joins_ok hz⟩
theorem Rib.elen (h : Rib r) : (endsL (dualG r).es).length = (endsL r.es).length := by
 obtain ⟨zs, hz, e⟩ := h.ends
 rw [e, List.length_map, hz.len, joinsR_len]
theorem Rib.at_ (h : Rib r) {x : Nat} (hx : x < 2 * (endsL r.es).length) : atL (endsL (dualG r).es) (dD r x) = ofF r x := by
 obtain ⟨zs, hz, e⟩ := h.ends
 refine at_dual hz e (fun e he => joins_at (by rwa [joinsR_len] at he)) (by rw [joinsR_len]; exact hx)
noncomputable def drow (r : R) (m : Nat) : List Nat := (faceF (fR (endsL r.es) r.ar) (2 * (endsL r.es).length) m).map (dD r)
theorem Rib.rows (h : Rib r) : dualAr r = (leadsL (fR (endsL r.es) r.ar) (2 * (endsL r.es).length) (2 * (endsL r.es).length)).map fun m => turnL (natI (drow r m)) := by
 unfold dualAr facesI
 rw [h.fr]
 unfold facesN
 rw [List.map_map, List.map_map]
 refine List.map_congr_left fun m hm => ?_
 have hml := (leadsL_mem.1 hm).1
 show turnL _ = turnL _
 congr 1
 unfold natI drow
 rw [List.map_map, List.map_map]
 refine List.map_congr_left fun x hx => ?_
 exact dual_half (face_lt h.ok.perm hml hx)
theorem drow_nodup (h : Rib r) {m : Nat} (hm : m < 2 * (endsL r.es).length) : (natI (drow r m)).Nodup := by
 have hp := h.ok.perm
 have hn := face_nodup hp hm
 unfold natI drow
 rw [List.map_map, List.Nodup, List.pairwise_map]
 refine List.Pairwise.imp_of_mem (fun {a b} ha hb hne e => hne ?_) hn
 have e2 : ((dD r a : Nat) : Int) = ((dD r b : Nat) : Int) := e
 exact h.dinj (face_lt hp hm ha) (face_lt hp hm hb) (by omega)
theorem drow_mem (h : Rib r) {i m : Nat} (hi : (leadsL (fR (endsL r.es) r.ar) (2 * (endsL r.es).length) (2 * (endsL r.es).length))[i]? = some m) {z : Int} :
  z ∈ natI (drow r m) ↔ z ∈ ownL (endsL (dualG r).es) (i : Int) (2 * (endsL (dualG r).es).length) := by
 have hp := h.ok.perm
 rw [ownL_mem, h.elen]
 constructor
 ·intro hz
  obtain ⟨y, hy, rfl⟩ := List.mem_map.1 hz
  obtain ⟨x, hx, rfl⟩ := List.mem_map.1 hy
  obtain ⟨h1, h2⟩ := (of_mem hp hi).1 hx
  have h3 := h.dlt h1
  refine ⟨by omega, by omega, ?_⟩
  rw [Int.toNat_natCast, h.at_ h1]; exact h2
 ·rintro ⟨h1, h2, h3⟩
  obtain ⟨x, hx, e⟩ := h.donto (y := z.toNat) (by omega)
  rw [← e, h.at_ hx] at h3
  refine List.mem_map.2 ⟨dD r x, List.mem_map.2 ⟨x, (of_mem hp hi).2 ⟨hx, h3⟩, rfl⟩, ?_⟩
  rw [e]; omega
theorem own_nodup (L : List (Int × Int)) (v : Int) (k : Nat) : (ownL L v k).Nodup := (ownL_sorted L v k).imp fun h e => by omega
theorem Rib.dual_ok (h : Rib r) : ROk (dualG r) := by
 have hp := h.ok.perm
 have hfl := h.flen
 have h1 := h.fpos
 have h2 := h.fac
 have hc : checkG (dualG r).g = 0 := (bag_check (n := ((facesR r).length : Nat)) (by omega) h.joins_ok (by rw [joinsR_len]; exact h.few)).1
 refine ⟨hc, ?_, ?_, fun i l hl => ?_⟩
 ·rw [conn_parts (n := (facesR r).length) hc rfl, decide_eq_true_eq]
  refine ncls_all (by omega) fun u w hu hw => ?_
  show Conn (endsL (sortE (bagL (joinsR r)))) u w
  rw [bag_conn h.joins_ok]
  have step : ∀ x, x < 2 * (endsL r.es).length → Conn (joinsR r) (ofF r x).toNat (ofF r (oppH x)).toNat := fun x hx => by
   have hj := List.mem_of_getElem? (joins_at (r := r) (e := x / 2) (by omega))
   have b1 := h.of_bnd (x := 2 * (x / 2)) (by omega)
   have b2 := h.of_bnd (x := 2 * (x / 2) + 1) (by omega)
   have e1 : ofF r (2 * (x / 2)) = (((ofF r (2 * (x / 2))).toNat : Nat) : Int) := by omega
   have e2 : ofF r (2 * (x / 2) + 1) = (((ofF r (2 * (x / 2) + 1)).toNat : Nat) : Int) := by omega
   rw [e1, e2] at hj
   have hxx : (x = 2 * (x / 2) ∧ oppH x = 2 * (x / 2) + 1) ∨ (x = 2 * (x / 2) + 1 ∧ oppH x = 2 * (x / 2)) := by unfold oppH; omega
   rcases hxx with ⟨q1, q2⟩ | ⟨q1, q2⟩
   ·rw [q2]; rw (config := { occs := .pos [1] }) [q1]; exact Conn.one (.inl hj)
   ·rw [q2]; rw (config := { occs := .pos [1] }) [q1]; exact Conn.one (.inr hj)
  have hem := emb_of h.ok
  have sig : ∀ x, x < 2 * (endsL r.es).length → ofF r (sR (endsL r.es) r.ar x) = ofF r (oppH x) := fun x hx => by
   have := cyc_step hp (oppH_lt hx)
   have e : fR (endsL r.es) r.ar (oppH x) = sR (endsL r.es) r.ar x := by unfold fR sR; rw [oppH_opp]
   rw [e] at this
   exact this
  have walk : ∀ i x, x < 2 * (endsL r.es).length → Conn (joinsR r) (ofF r x).toNat (ofF r (it (sR (endsL r.es) r.ar) i x)).toNat := fun i x hx => by
   induction i with
   | zero => exact .refl
   | succ i ih =>
    have hl := hem.perm.it_lt hx i
    show Conn _ _ (ofF r (sR (endsL r.es) r.ar (it (sR (endsL r.es) r.ar) i x))).toNat
    rw [sig _ hl]
    exact ih.trans (step _ hl)
  have same : ∀ x y, x < 2 * (endsL r.es).length → y < 2 * (endsL r.es).length → gR (endsL r.es) x = gR (endsL r.es) y → Conn (joinsR r) (ofF r x).toNat (ofF r y).toNat := fun x y hx hy hg => by
   obtain ⟨i, rfl⟩ := same_cyc h.ok hx hy hg
   exact walk i x hx
  have main : ∀ a b, Conn (endsL r.es) a b → ∀ x y, x < 2 * (endsL r.es).length → y < 2 * (endsL r.es).length → gR (endsL r.es) x = a → gR (endsL r.es) y = b → Conn (joinsR r) (ofF r x).toNat (ofF r y).toNat := fun a b hab => by
   induction hab with
   | refl => intro x y hx hy e1 e2; exact same x y hx hy (by rw [e1, e2])
   | @step b c _ hs ih =>
    intro x y hx hy e1 e2
    have get : ∀ p, p ∈ endsL r.es → ∃ k, k < (endsL r.es).length ∧ p = (((gR (endsL r.es) (2 * k) : Nat) : Int), ((gR (endsL r.es) (2 * k + 1) : Nat) : Int)) := fun p hp => by
     obtain ⟨k, hk, e⟩ := List.mem_iff_getElem.1 hp
     refine ⟨k, hk, ?_⟩
     have := hem.ends k hk
     rw [List.getElem?_eq_getElem hk, e] at this
     exact Option.some.inj this
    rcases hs with hs | hs
    ·obtain ⟨k, hk, e⟩ := get _ hs
     rw [Prod.mk.injEq] at e
     have o1 : oppH (2 * k) = 2 * k + 1 := by unfold oppH; omega
     have s1 := step (2 * k) (by omega)
     rw [o1] at s1
     exact ((ih x (2 * k) hx (by omega) e1 (by omega)).trans s1).trans (same (2 * k + 1) y (by omega) hy (by omega))
    ·obtain ⟨k, hk, e⟩ := get _ hs
     rw [Prod.mk.injEq] at e
     have o1 : oppH (2 * k + 1) = 2 * k := by unfold oppH; omega
     have s1 := step (2 * k + 1) (by omega)
     rw [o1] at s1
     exact ((ih x (2 * k + 1) hx (by omega) e1 (by omega)).trans s1).trans (same (2 * k) y (by omega) hy (by omega))
  have half : ∀ u, u < (facesR r).length → ∃ x, x < 2 * (endsL r.es).length ∧ (ofF r x).toNat = u := fun u hu => by
   rw [hfl] at hu
   have e0 := List.getElem?_eq_getElem hu
   have hm := lead_at e0
   have := (of_mem hp e0).1 (face_self _ _ _)
   exact ⟨_, hm.1, by unfold ofF; rw [this.2]; omega⟩
  obtain ⟨x, hx, rfl⟩ := half u hu
  obtain ⟨y, hy, rfl⟩ := half w hw
  have hcn : ncls r.n.toNat (Conn (endsL r.es)) = 1 := by
   have hk : r.g.n = ((r.n.toNat : Nat) : Int) := by have h12 : 1 ≤ r.n := (checkG_zero.1 h.ok.c).1.1; show r.n = _; omega
   have := h.ok.conn
   rw [conn_parts h.ok.c hk, decide_eq_true_eq] at this
   exact this
  exact main _ _ (ncls_one (conn_eqv _ _) hcn (hem.lt x hx) (hem.lt y hy)) x y hx hy rfl rfl
 ·show ((dualAr r).length : Int) = _
  rw [h.rows, List.length_map, ← hfl]; rfl
 ·have hl2 : (dualAr r)[i]? = some l := hl
  rw [h.rows, List.getElem?_map] at hl2
  cases hi : (leadsL (fR (endsL r.es) r.ar) (2 * (endsL r.es).length) (2 * (endsL r.es).length))[i]? with
  | none => rw [hi] at hl2; cases hl2
  | some m =>
   rw [hi, Option.map_some] at hl2
   have el := Option.some.inj hl2
   have hm := lead_at hi
   have hnd := drow_nodup h hm.1
   have hmem := fun z => drow_mem h hi (z := z)
   have hpm := turn_perm (natI (drow r m))
   rw [el] at hpm
   have hne : natI (drow r m) ≠ [] := by unfold natI drow faceF; simp
   have hpo : (natI (drow r m)).Perm (ownL (endsL (dualG r).es) (i : Int) (2 * (endsL (dualG r).es).length)) := (List.perm_ext_iff_of_nodup hnd (own_nodup _ _ _)).2 hmem
   refine ⟨hpm.nodup_iff.2 hnd, fun z hz => (hmem z).1 (hpm.mem_iff.1 hz), fun z hz => hpm.mem_iff.2 ((hmem z).2 hz), (hpm.trans hpo).length_eq, .inr ?_⟩
   rw [← el, turn_head hne]
   generalize hX : natI (drow r m) = X at *
   have hXl : 0 < X.length := List.length_pos_iff.2 hne
   have hol := hpo.length_eq
   have a1 := least_le (m := X) (hpo.mem_iff.2 (getD_mem (m := ownL (endsL (dualG r).es) (i : Int) (2 * (endsL (dualG r).es).length)) (i := 0) (by omega)))
   have a2 := sorted_head (ownL_sorted (endsL (dualG r).es) (i : Int) (2 * (endsL (dualG r).es).length)) (hpo.mem_iff.1 (getD_mem (m := X) (leastN_lt hne)))
   omega
end
end Go.Proofs.YtfkegnhpihoncaaGreat
set_option linter.all false
namespace Go.Proofs.YtfkegnhpihoncaaGreat
open Go.Sp
set_option linter.unusedSimpArgs false
set_option linter.unusedVariables false
set_option maxHeartbeats 4000000
set_option maxRecDepth 100000
def rightR (r : R) : Bool := fewR r && decide (ribE r = 0)
end Go.Proofs.YtfkegnhpihoncaaGreat
