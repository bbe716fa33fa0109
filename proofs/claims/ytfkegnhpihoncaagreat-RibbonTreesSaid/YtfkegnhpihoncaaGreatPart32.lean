/- A part of the proof. -/
import Derived.Test.YtfkegnhpihoncaaGreatPart31
import Derived.Test.YtfkegnhpihoncaaGreatLayerC
import Derived.Test.YtfkegnhpihoncaaGreatPart11
import Derived.Test.YtfkegnhpihoncaaGreatPart02
import Derived.Test.YtfkegnhpihoncaaGreatPart06
import Derived.Test.YtfkegnhpihoncaaGreatPart10
import Derived.Test.YtfkegnhpihoncaaGreatPart14
set_option linter.all false
set_option maxHeartbeats 4000000
set_option maxRecDepth 100000
namespace Go.Proofs.YtfkegnhpihoncaaGreat
open Go.Sp
theorem row_iter {l : List Int} (hn : l.Nodup) {s : Nat → Nat} (hs : ∀ x : Nat, (x : Int) ∈ l → ((s x : Nat) : Int) = nextI l (x : Int)) {x : Nat} (hx : (x : Int) ∈ l) : ∀ k, l[(l.idxOf (x : Int) + k) % l.length]? = some ((it s k x : Nat) : Int)
 | 0 => by
  obtain ⟨h1, h2⟩ := getD_idx hx
  rw [Nat.add_zero, Nat.mod_eq_of_lt h1, h2]; rfl
 | k + 1 => by
  have ih := row_iter hn hs hx k
  obtain ⟨h1, h2⟩ := getD_idx hx
  have hm := List.mem_of_getElem? ih
  have hnx := hs _ hm
  unfold nextI at hnx
  rw [idx_at hn ih] at hnx
  have hlt : ((l.idxOf (x : Int) + k) % l.length + 1) % l.length < l.length := Nat.mod_lt _ (by omega)
  have e : ((l.idxOf (x : Int) + k) % l.length + 1) % l.length = (l.idxOf (x : Int) + (k + 1)) % l.length := by rw [Nat.mod_add_mod]; rfl
  rw [e] at hnx hlt
  rw [List.getD_eq_getElem?_getD, List.getElem?_eq_getElem hlt, Option.getD_some] at hnx
  rw [List.getElem?_eq_getElem hlt]
  show _ = some (((s (it s k x)) : Nat) : Int)
  rw [hnx]
theorem row_cyc {l : List Int} (hn : l.Nodup) {s : Nat → Nat} (hs : ∀ x : Nat, (x : Int) ∈ l → ((s x : Nat) : Int) = nextI l (x : Int)) {x y : Nat} (hx : (x : Int) ∈ l) (hy : (y : Int) ∈ l) : cycR s x y := by
 obtain ⟨h1, h2⟩ := getD_idx hx
 obtain ⟨h3, h4⟩ := getD_idx hy
 refine ⟨l.idxOf (y : Int) + (l.length - l.idxOf (x : Int)), ?_⟩
 have h5 := row_iter hn hs hx (l.idxOf (y : Int) + (l.length - l.idxOf (x : Int)))
 rw [show l.idxOf (x : Int) + (l.idxOf (y : Int) + (l.length - l.idxOf (x : Int))) = l.idxOf (y : Int) + l.length by omega, Nat.add_mod_right, Nat.mod_eq_of_lt h3, h4] at h5
 have := Option.some.inj h5
 omega
theorem conn_nil_ncls (n : Nat) : ncls n (Conn []) = n := by
 have := ncls_onto (N := n) (n := n) (fun x => x) (fun x hx => hx) (fun v hv => ⟨v, hv, rfl⟩)
 rw [← ncls_congr (R := Conn []) (S := fun x y => x = y) fun x y _ _ => ?_] at this
 ·exact this
 ·constructor
  ·intro hc
   cases hc with
   | refl => rfl
   | step _ hs => simp at hs
  ·rintro rfl; exact .refl
open Classical in
theorem ncls_one {N : Nat} {R : Nat → Nat → Prop} (hR : Eqv N R) (h : ncls N R = 1) {x y : Nat} (hx : x < N) (hy : y < N) : R x y := by
 unfold ncls at h
 generalize hl : List.filter _ (List.range N) = l at h
 have hmem : ∀ h, h ∈ l ↔ h < N ∧ ∀ y, y < N → R h y → h ≤ y := fun h => by rw [← hl]; simp
 have lead : ∀ x, x < N → ∃ m, m < N ∧ R x m ∧ m ∈ l := fun x hx => by
  obtain ⟨m, m1, ⟨m2, m3⟩, m4⟩ := least_of (P := fun y => y < N ∧ R x y) ⟨hx, hR.refl x hx⟩
  exact ⟨m, m2, m3, (hmem m).2 ⟨m2, fun y hy hr => m4 y ⟨hy, hR.trans x m y hx m2 hy m3 hr⟩⟩⟩
 obtain ⟨a, a1, a2, a3⟩ := lead x hx
 obtain ⟨b, b1, b2, b3⟩ := lead y hy
 obtain ⟨c, rfl⟩ : ∃ c, l = [c] := List.length_eq_one_iff.1 h
 have e : a = b := by simp at a3 b3; rw [a3, b3]
 subst e
 exact hR.trans x a y hx a1 hy a2 (hR.symm y a hy a1 b2)
theorem cyc_congr {N : Nat} {f g : Nat → Nat} (hf : PermN N f) (h : ∀ x, x < N → f x = g x) {x y : Nat} (hx : x < N) : cycR f x y ↔ cycR g x y := by
 have key : ∀ i, it g i x = it f i x := fun i => by
  induction i with
  | zero => rfl
  | succ i ih =>
   show g (it g i x) = f (it f i x)
   rw [ih]; exact (h _ (hf.it_lt hx i)).symm
 constructor
 ·rintro ⟨i, hi⟩; exact ⟨i, by rw [key]; exact hi⟩
 ·rintro ⟨i, hi⟩; exact ⟨i, by rw [← key]; exact hi⟩
def sR (L : List (Int × Int)) (ar : List (List Int)) (x : Nat) : Nat := (nextR L ar x).toNat
def gR (L : List (Int × Int)) (x : Nat) : Nat := (atL L x).toNat
theorem emb_of {r : R} (hr : ROk r) : Emb (endsL r.es).length r.n.toNat (endsL r.es) (sR (endsL r.es) r.ar) (gR (endsL r.es)) := by
 refine ⟨rfl, ⟨fun x hx => ?_, fun x y hx hy e => ?_⟩, fun x hx => ?_, fun k hk => ?_, fun x hx => ?_⟩
 ·have := hr.next hx; unfold sR; omega
 ·have h1 := hr.next hx
  have h2 := hr.next hy
  unfold sR at e
  exact hr.next_inj hx hy (by omega)
 ·have := atL_range hr.c hx; unfold gR; omega
 ·have h1 := atL_range hr.c (show 2 * k < 2 * (endsL r.es).length by omega)
  have h2 := atL_range hr.c (show 2 * k + 1 < 2 * (endsL r.es).length by omega)
  have e := List.getElem?_eq_getElem hk
  have a1 : atL (endsL r.es) (2 * k) = (endsL r.es)[k].1 := by
   unfold atL; rw [if_pos (by omega), show 2 * k / 2 = k by omega, List.getD_eq_getElem?_getD, e]; rfl
  have a2 : atL (endsL r.es) (2 * k + 1) = (endsL r.es)[k].2 := by
   unfold atL; rw [if_neg (by omega), show (2 * k + 1) / 2 = k by omega, List.getD_eq_getElem?_getD, e]; rfl
  rw [e]
  congr 1
  refine Prod.ext ?_ ?_
  ·show _ = (((atL (endsL r.es) (2 * k)).toNat : Nat) : Int); rw [← a1]; omega
  ·show _ = (((atL (endsL r.es) (2 * k + 1)).toNat : Nat) : Int); rw [← a2]; omega
 ·show (atL (endsL r.es) (sR (endsL r.es) r.ar x)).toNat = (atL (endsL r.es) x).toNat
  unfold sR
  rw [(hr.next hx).2.2]
theorem euler_of {r : R} (hr : ROk r) : (facesR r).length + r.n.toNat ≤ (endsL r.es).length + 2 ∧ ((facesR r).length + r.n.toNat + (endsL r.es).length) % 2 = 0 ∧ 1 ≤ (facesR r).length := by
 have h12 : 1 ≤ r.n ∧ r.n ≤ 12 := (checkG_zero.1 hr.c).1
 have hpc : partsN r.g.es r.n.toNat r.n.toNat = 1 := of_decide_eq_true hr.conn
 rw [parts_ncls hr.c (by show r.n = _; omega)] at hpc
 have hpc2 : ncls r.n.toNat (Conn (endsL r.es)) = 1 := hpc
 clear hpc
 by_cases hE : (endsL r.es).length = 0
 ·have e : endsL r.es = [] := List.length_eq_zero_iff.1 hE
  have hf : facesR r = [[]] := by unfold facesR; rw [if_pos hE]
  rw [e, conn_nil_ncls] at hpc2
  rw [hf, e, hpc2]
  decide
 ·have hem := emb_of hr
  have hf : facesR r = facesN (fR (endsL r.es) r.ar) (2 * (endsL r.es).length) (2 * (endsL r.es).length) := by unfold facesR; rw [if_neg hE]
  have hfl : (facesR r).length = ncls (2 * (endsL r.es).length) (cycR (midF (sR (endsL r.es) r.ar) (endsL r.es).length)) := by
   rw [hf, faces_ncls hr.perm]
   refine ncls_congr fun x y hx hy => cyc_congr hr.perm (fun z hz => ?_) hx
   unfold midF; rw [if_pos hz]; rfl
  have h0 : ncls (2 * (endsL r.es).length) (cycR (sR (endsL r.es) r.ar)) = r.n.toNat := by
   rw [ncls_congr (S := fun x y => gR (endsL r.es) x = gR (endsL r.es) y)]
   ·refine ncls_onto _ hem.lt fun v hv => ?_
    have hc := ncls_one (conn_eqv _ _) hpc2 (hem.lt 0 (by omega)) hv
    cases hc with
    | refl => exact ⟨0, by omega, rfl⟩
    | @step b c _ hs =>
     have get : ∀ p, p ∈ endsL r.es → ∃ k, k < (endsL r.es).length ∧ p = (((gR (endsL r.es) (2 * k) : Nat) : Int), ((gR (endsL r.es) (2 * k + 1) : Nat) : Int)) := fun p hp => by
      obtain ⟨k, hk, e⟩ := List.mem_iff_getElem.1 hp
      refine ⟨k, hk, ?_⟩
      have := hem.ends k hk
      rw [List.getElem?_eq_getElem hk, e] at this
      exact Option.some.inj this
     rcases hs with hs | hs
     ·obtain ⟨k, hk, e⟩ := get _ hs
      have := congrArg Prod.snd e
      simp only at this
      exact ⟨2 * k + 1, by omega, by omega⟩
     ·obtain ⟨k, hk, e⟩ := get _ hs
      have := congrArg Prod.fst e
      simp only at this
      exact ⟨2 * k, by omega, by omega⟩
   ·intro x y hx hy
    constructor
    ·rintro ⟨i, rfl⟩
     clear hy
     induction i with
     | zero => rfl
     | succ i ih =>
      show _ = gR (endsL r.es) (sR (endsL r.es) r.ar (it (sR (endsL r.es) r.ar) i x))
      rw [hem.keep _ (hem.perm.it_lt hx i)]; exact ih
    ·intro hg
     have ax := atL_range hr.c hx
     have ay := atL_range hr.c hy
     have hat : atL (endsL r.es) x = atL (endsL r.es) y := by unfold gR at hg; omega
     obtain ⟨l, q1, q2, q3, q4⟩ := hr.row hx
     refine row_cyc q3.nd (fun z hz => ?_) q4 (q3.sup _ (ownL_mem.2 ⟨by omega, by omega, by rw [Int.toNat_natCast]; exact hat.symm⟩))
     have hz2 := ownL_mem.1 (q3.sub _ hz)
     rw [Int.toNat_natCast] at hz2
     have hzl : z < 2 * (endsL r.es).length := by omega
     have hzn := hr.next hzl
     have : nextR (endsL r.es) r.ar z = nextI l (z : Int) := by unfold nextR; rw [hz2.2.2, q2]
     unfold sR
     rw [← this]; omega
  obtain ⟨b1, b2⟩ := hem.bound h0 (endsL r.es).length (Nat.le_refl _)
  rw [List.take_length, hpc2] at b1
  refine ⟨by omega, by omega, ?_⟩
  rw [hf]
  have hz : leadB (fR (endsL r.es) r.ar) (2 * (endsL r.es).length) 0 = true := leadB_iff.2 fun y _ => Nat.zero_le _
  unfold facesN
  rw [List.length_map]
  exact List.length_pos_of_mem (leadsL_mem.2 ⟨by omega, hz⟩)
end Go.Proofs.YtfkegnhpihoncaaGreat
namespace Go.Proofs.YtfkegnhpihoncaaGreat
open Go.Sp
theorem refEnds_ok (g : G) (hl : g.es.length ≤ 40) (hc : checkG g = 0) : ACall Tryz.prog 55 [tG g] (tpairs (endsL g.es)) := by
 have hs := sm_of (g := g) (by omega) hc
 exact EndsR_ok g hs.s hs.es hs.m
theorem refAt_ok (g : G) (hl : g.es.length ≤ 40) (hc : checkG g = 0) (h : Nat) (hh : h < 2 * (endsL g.es).length) : ACall Tryz.prog 74 [tG g, tint h] (tint (atL (endsL g.es) h)) := by
 have hE := refEnds_ok g hl hc
 have hlen := ends_len hl hc
 have e0 : (endsL g.es)[h / 2]? = some (endsL g.es)[h / 2] := List.getElem?_eq_getElem (by omega)
 have e1 := pRows_get e0
 have ea : atL (endsL g.es) h = if h % 2 = 0 then (endsL g.es)[h / 2].1 else (endsL g.es)[h / 2].2 := by unfold atL; rw [List.getD_eq_getElem?_getD, e0]; rfl
 have hlt : ((h / 2 : Nat) : Int) < (endsL g.es).length := by omega
 rw [ea]
 clear ea
 generalize (endsL g.es)[h / 2] = p at *
 obtain ⟨a, b⟩ := p
 generalize endsL g.es = L at *
 obtain ⟨n, es⟩ := g
 refine ACall.of_body Tryz.func74 rfl (by kernel_rfl) ?_
 simp only [entry, Tryz.ntmps74, tG, tint]
 refine zU ?_
 have hm : h % 2 = 0 ∨ h % 2 = 1 := by omega
 rcases hm with hm | hm
 ·
  refine zR (zc @tdiv2 (zc @tmod2 (zc @hm (zc @hlt (zc @pRows_len (zc @e1 trivial)))))) (zc hE trivial) trivial ?_
  simp [Rets, aret, Blk.cells, ty, Tryz.results74, ares, toT1, toT, borrow, borrow0, capCell, toTree0, tint, hm]
 ·
  refine zR (zc @tdiv2 (zc @tmod2 (zc @hm (zc @hlt (zc @pRows_len (zc @e1 trivial)))))) (zc hE trivial) trivial ?_
  simp [Rets, aret, Blk.cells, ty, Tryz.results74, ares, toT1, toT, borrow, borrow0, capCell, toTree0, tint, hm]
theorem refHalf_ok (g : G) (hl : g.es.length ≤ 40) (hc : checkG g = 0) : ACall Tryz.prog 22 [tG g] (tint (2 * ((endsL g.es).length : Int))) := by
 have hs := sm_of (g := g) (by omega) hc
 have hZ := SizeR_ok g hs.s hs.es hs.m
 have hlen := ends_len hl hc
 generalize endsL g.es = L at *
 obtain ⟨n, es⟩ := g
 refine ACall.of_body Tryz.func22 rfl (by kernel_rfl) ?_
 simp only [entry, Tryz.ntmps22, tG]
 refine zU ?_
 refine zR trivial (zc hZ trivial) trivial ?_
 simp [Rets, aret, Blk.cells, ty, Tryz.results22, ares, toT1, toT, borrow, borrow0, capCell, toTree0, tint]
theorem refConn_ok (g : G) (hl : g.es.length ≤ 40) (hc : checkG g = 0) : ACall Tryz.prog 93 [tG g] (tbool (connB g)) := by
 have h12 := (checkG_zero.1 hc).1
 have hP := Parts_ok g g.n.toNat hc (by omega) (by omega)
 unfold connB
 generalize partsN g.es g.n.toNat g.n.toNat = k at *
 have e : decide (k = 1) = decide ((k : Int) = 1) := decide_eq_decide.2 (by omega)
 rw [e]
 obtain ⟨n, es⟩ := g
 refine ACall.of_body Tryz.func93 rfl (by kernel_rfl) ?_
 simp only [entry, Tryz.ntmps93, tG]
 refine zU ?_
 refine zR trivial (zc hP trivial) trivial ?_
 simp [Rets, aret, Blk.cells, ty, Tryz.results93, ares, toT1, toT, borrow, borrow0, capCell, toTree0, tbool]
theorem refJoined_ok (g : G) (hl : g.es.length ≤ 40) : ACall Tryz.prog 51 [tG g] (tint (joinedE g)) := by
 have hC := CheckR_ok g (by omega)
 unfold joinedE
 by_cases hc : checkG g = 0
 ·have hK := refConn_ok g hl hc
  have hCn := hK
  clear hK
  rw [if_neg (by omega)]
  rw [hc] at hC
  generalize connB g = b at *
  obtain ⟨n, es⟩ := g
  refine ACall.of_body Tryz.func51 rfl (by kernel_rfl) ?_
  simp only [entry, Tryz.ntmps51, tG]
  refine zU ?_
  cases b with
  | true =>
   rw [if_pos rfl]
   refine zR trivial (zc hC (zc hCn trivial)) trivial ?_
   simp [Rets, aret, Blk.cells, ty, Tryz.results51, ares, toT1, toT, borrow, borrow0, capCell, toTree0, tint]
  | false =>
   rw [if_neg (by simp)]
   refine zR trivial (zc hC (zc hCn trivial)) trivial ?_
   simp [Rets, aret, Blk.cells, ty, Tryz.results51, ares, toT1, toT, borrow, borrow0, capCell, toTree0, tint]
 ·rw [if_pos hc]
  generalize checkG g = E at *
  obtain ⟨n, es⟩ := g
  refine ACall.of_body Tryz.func51 rfl (by kernel_rfl) ?_
  simp only [entry, Tryz.ntmps51, tG]
  refine zU ?_
  refine zR (zc @hc trivial) (zc hC trivial) trivial ?_
  simp [Rets, aret, Blk.cells, ty, Tryz.results51, ares, toT1, toT, borrow, borrow0, capCell, toTree0, tint]
theorem around_ok (g : G) (hl : g.es.length ≤ 40) (hc : checkG g = 0) (v : Nat) (hv : (v : Int) < g.n) (l : List Int) (hll : l.length < 2 ^ 20) :
  ACall Tryz.prog 52 [tG g, tint v, tints l] (tint (lstErr l (ownL (endsL g.es) (v : Int) (2 * (endsL g.es).length)))) := by
 have h12 := (checkG_zero.1 hc).1
 have hD := DegreeR_ok g g.n.toNat hc (by omega) (by omega) v
 rw [own_degR hc (by omega) ⟨by omega, by omega⟩] at hD
 have hH := refHalf_ok g hl hc
 have hA := fun (h : Nat) (hh : h < 2 * (endsL g.es).length) => refAt_ok g hl hc h hh
 have hlen := ends_len hl hc
 have hs := ownL_sorted (endsL g.es) (v : Int) (2 * (endsL g.es).length)
 have hmem := fun x => ownL_mem (L := endsL g.es) (v := (v : Int)) (k := 2 * (endsL g.es).length) (x := x)
 have hol := ownL_len (endsL g.es) (v : Int) (2 * (endsL g.es).length)
 generalize ownL (endsL g.es) (v : Int) (2 * (endsL g.es).length) = own at *
 generalize endsL g.es = L at *
 clear hc
 obtain ⟨n, es⟩ := g
 simp only at hv h12 hl
 refine ACall.of_body Tryz.func52 rfl (by kernel_rfl) ?_
 simp only [entry, Tryz.ntmps52, tG, tint, tints]
 refine zU ?_
 by_cases hlo : l.length = own.length
 case neg =>
  have hI : ¬ ((l.length : Int) = own.length) := by omega
  have e : lstErr l own = 8 := by unfold lstErr; exact if_pos hlo
  rw [e]
  refine zR (zc @iRows_len (zc @hI trivial)) (zc hD trivial) trivial ?_
  simp [Rets, aret, Blk.cells, ty, Tryz.results52, ares, toT1, toT, borrow, borrow0, capCell, toTree0, tint]
 have hI : ((l.length : Int) = own.length) := by omega
 refine zR (zc @iRows_len (zc @hI trivial)) (zc hD trivial) trivial ?_
 refine AWp.loopS (α:=Nat) 67 (fun i=>[(1,.c (.int .i64 (v : Int))),(2,.c (.slice (iRows l) .none)),(3,.c (.ptr 0 0)),(7,.c (.int .i64 (i : Int)))]) (fun i=>[.box [.int .i64 n, .slice (eRows es) .none]]) (fun i=>i ≤ l.length ∧ lstGo own [] l = lstGo own (l.take i) (l.drop i)) (fun i=>l.length - i) (0) (hk:=Weak.headL 1 67 [1, 2, 3, 7] zW) (h0:=?_) (round:=fun i hI=>?_)
 ·exact ⟨Nat.zero_le _, rfl⟩
 ·obtain ⟨hi, hI2⟩ := hI
  by_cases hlt : i < l.length
  ·have hltI : (i : Int) < own.length := by omega
   have e0 := List.getElem?_eq_getElem hlt
   have e1 := iRows_get e0
   have hd := List.drop_eq_getElem_cons hlt
   have htk : l.take (i + 1) = l.take i ++ [l[i]] := List.take_succ_eq_append_getElem hlt
   generalize l[i] = x at *
   have hm := hmem x
   have hHo := Holds_ok (l.take i) x (by rw [List.length_take]; omega)
   have herr : ¬ x ∈ own → lstErr l own = 2 := fun hn => by
    have hg : lstGo own [] l = 2 := by rw [hI2, hd]; simp only [lstGo]; rw [if_neg hn]
    unfold lstErr; rw [if_neg (by omega), hg]; rfl
   by_cases hx0 : x < 0
   ·have e := herr (fun h => by have := hm.1 h; omega)
    rw [e]
    refine zR (zc @hltI (zc @hI (zc @iRows_len (zc @e1 (zc @hx0 trivial))))) trivial trivial ?_
    simp [Rets, aret, Blk.cells, ty, Tryz.results52, ares, toT1, toT, borrow, borrow0, capCell, toTree0, tint]
   by_cases hx1 : 2 * (L.length : Int) ≤ x
   ·have e := herr (fun h => by have := hm.1 h; omega)
    rw [e]
    refine zR (zc @hltI (zc @hI (zc @iRows_len (zc @e1 (zc @hx0 (zc @hx1 trivial)))))) (zc hH trivial) trivial ?_
    simp [Rets, aret, Blk.cells, ty, Tryz.results52, ares, toT1, toT, borrow, borrow0, capCell, toTree0, tint]
   obtain ⟨y, rfl⟩ := Int.eq_ofNat_of_zero_le (show 0 ≤ x by omega)
   have hyl : y < 2 * L.length := by omega
   have hAy := hA y hyl
   rw [Int.toNat_natCast] at hm
   by_cases hav : atL L y = v
   case neg =>
    have e := herr (fun h => hav (hm.1 h).2.2)
    rw [e]
    generalize atL L y = a at *
    refine zR (zc @hltI (zc @hI (zc @iRows_len (zc @e1 (zc @hx0 (zc @hx1 (zc @hav trivial))))))) (zc hH (zc hAy trivial)) trivial ?_
    simp [Rets, aret, Blk.cells, ty, Tryz.results52, ares, toT1, toT, borrow, borrow0, capCell, toTree0, tint]
   have hin : (y : Int) ∈ own := hm.2 ⟨by omega, by omega, hav⟩
   rw [hav] at hAy
   by_cases hc : (y : Int) ∈ l.take i
   ·have hg : lstGo own [] l = 7 := by rw [hI2, hd]; simp only [lstGo]; rw [if_pos hin, if_pos hc]
    have e : lstErr l own = 7 := by unfold lstErr; rw [if_neg (by omega), hg]; rfl
    rw [e]
    rw [decide_eq_true hc] at hHo
    refine zR (zc @hltI (zc @hI (zc @iRows_len (zc @e1 (zc @hx0 (zc @hx1 (zc @iRows_take (zc @Int.ofNat_lt (zc @hlt trivial))))))))) (zc hH (zc hAy (zc hHo trivial))) @iRows_k' ?_
    simp [Rets, aret, Blk.cells, ty, Tryz.results52, ares, toT1, toT, borrow, borrow0, capCell, toTree0, tint]
   ·rw [decide_eq_false hc] at hHo
    refine zR (zc @hltI (zc @hI (zc @iRows_len (zc @e1 (zc @hx0 (zc @hx1 (zc @iRows_take (zc @Int.ofNat_lt (zc @hlt trivial))))))))) (zc hH (zc hAy (zc hHo trivial))) @iRows_k' ?_
    refine ⟨i + 1,Weak.headN 1 67 [1, 2, 3, 7] zW,?_,?_⟩
    ·refine ⟨hlt, ?_⟩
     rw [hI2, hd, lstGo_step hin hc, ← htk]
    ·omega
  ·have ei : i = l.length := by omega
   have hg : lstGo own [] l = 0 := by rw [hI2, ei, List.drop_length]; rfl
   have hnl : ¬ ((i : Int) < own.length) := by omega
   have hh := hd_iff hg hlo hs
   have herr : lstErr l own = if l ≠ [] ∧ l.getD 0 0 ≠ own.getD 0 0 then 9 else 0 := by unfold lstErr; rw [if_neg (by omega), if_neg (by omega)]
   refine zR (zc @hnl (zc @iRows_len (zc @hI trivial))) trivial trivial ?_
   refine AWp.loopS (α:=Nat) 67 (fun j=>[(2,.c (.slice (iRows l) .none)),(8,.c (.int .i64 ((j : Int) + 1)))]) (fun j=>[]) (fun j=>∀ k x, k ≤ j → l[k]? = some x → ¬ x < l.getD 0 0) (fun j=>l.length - j) (0) (hk:=Weak.headL 0 67 [2, 8] zW) (h0:=?_) (round:=fun j hI=>?_)
   ·intro k x hk hx
    have : k = 0 := by omega
    subst this
    rw [List.getD_eq_getElem?_getD, hx]; simp
   ·have hinv := hI
    clear hI
    by_cases hltj : j + 1 < l.length
    ·have hltJ : (j : Int) + 1 < own.length := by omega
     have f0 := List.getElem?_eq_getElem hltj
     have f1 := iRows_get f0
     have g0 := List.getElem?_eq_getElem (show 0 < l.length by omega)
     have g1 := iRows_get g0
     have hgd : l.getD 0 0 = l[0] := by rw [List.getD_eq_getElem?_getD, g0]; rfl
     have ht : ((j : Int) + 1).toNat = j + 1 := by omega
     have hml := List.getElem_mem hltj
     have hoI : (0 : Int) < own.length := by omega
     generalize l[j + 1] = x at *
     generalize l[0] = z at *
     by_cases hxz : x < z
     ·have e : lstErr l own = 9 := by rw [herr, if_pos]; exact hh.2 ⟨x, hml, by rw [hgd]; exact hxz⟩
      rw [e]
      refine zR (zc @hltJ (zc @hI (zc @iRows_len (zc @f1 (zc @g1 (zc @ht (zc @Int.toNat_zero (zc @hxz (zc @hoI trivial))))))))) trivial trivial ?_
      simp [Rets, aret, Blk.cells, ty, Tryz.results52, ares, toT1, toT, borrow, borrow0, capCell, toTree0, tint]
     ·have hxz2 : z ≤ x := by omega
      refine zR (zc @hltJ (zc @hI (zc @iRows_len (zc @f1 (zc @g1 (zc @ht (zc @Int.toNat_zero (zc @hxz (zc @hoI trivial))))))))) trivial trivial ?_
      refine ⟨j + 1,Weak.headN 0 67 [2, 8] zW,?_,?_⟩
      ·intro k y hk hy
       by_cases e : k = j + 1
       ·subst e
        rw [f0] at hy
        cases hy
        rw [hgd]; exact hxz
       ·exact hinv k y (by omega) hy
      ·omega
    ·have hnlj : ¬ ((j : Int) + 1 < own.length) := by omega
     have e : lstErr l own = 0 := by
      rw [herr, if_neg]
      intro h
      obtain ⟨x, hx, hlt⟩ := hh.1 h
      obtain ⟨k, hk, rfl⟩ := List.mem_iff_getElem.1 hx
      exact hinv k _ (by omega) (List.getElem?_eq_getElem hk) hlt
     rw [e]
     refine zR (zc @hnlj (zc @hI (zc @iRows_len trivial))) trivial trivial ?_
     simp [Rets, aret, Blk.cells, ty, Tryz.results52, ares, toT1, toT, borrow, borrow0, capCell, toTree0, tint]
theorem refCheck_ok (r : R) (hs : RSm r) : ACall Tryz.prog 15 [tR r] (tint (ribE r)) := by
 have hJ := refJoined_ok r.g hs.es
 by_cases hj : joinedE r.g = 0
 case neg =>
  have e : ribE r = joinedE r.g := by unfold ribE; rw [if_pos hj]
  rw [e]
  clear e
  generalize joinedE r.g = E at *
  obtain ⟨n, es, ar⟩ := r
  refine ACall.of_body Tryz.func15 rfl (by kernel_rfl) ?_
  simp only [entry, Tryz.ntmps15, tR]
  refine zU ?_
  refine zR (zc @hj trivial) (zc hJ trivial) trivial ?_
  simp [Rets, aret, Blk.cells, ty, Tryz.results15, ares, toT1, toT, borrow, borrow0, capCell, toTree0, tint]
 have hc : checkG r.g = 0 := by
  unfold joinedE at hj
  by_cases h : checkG r.g = 0
  ·exact h
  ·rw [if_pos h] at hj; exact absurd hj h
 have h12 : 1 ≤ r.n ∧ r.n ≤ 12 := (checkG_zero.1 hc).1
 have eR : ribE r = if (r.ar.length : Int) ≠ r.n then 8 else chkGo (endsL r.es) (2 * (endsL r.es).length) 0 r.ar := by unfold ribE; rw [if_neg (by omega)]
 rw [eR]
 rw [hj] at hJ
 have hAr := fun (v : Nat) (hv : (v : Int) < r.n) (l : List Int) (hl : l.length < 2 ^ 20) => around_ok r.g hs.es hc v hv l hl
 have hLl := hs.l
 have hA := hs.ar
 clear hs hj hc eR
 obtain ⟨n, es, ar⟩ := r
 simp only [R.g] at hJ hAr h12 hLl hA ⊢
 generalize hL : endsL es = L at *
 obtain ⟨k, rfl⟩ := Int.eq_ofNat_of_zero_le (show 0 ≤ n by omega)
 refine ACall.of_body Tryz.func15 rfl (by kernel_rfl) ?_
 simp only [entry, Tryz.ntmps15, tR]
 refine zU ?_
 by_cases hlen2 : ar.length = k
 case neg =>
  have hI : ¬ ((ar.length : Int) = k) := by omega
  rw [if_pos hI]
  refine zR (zc @llRows_len (zc @hI trivial)) (zc hJ trivial) trivial ?_
  simp [Rets, aret, Blk.cells, ty, Tryz.results15, ares, toT1, toT, borrow, borrow0, capCell, toTree0, tint]
 have hI : (ar.length : Int) = k := by omega
 rw [if_neg (show ¬ ((ar.length : Int) ≠ (k : Int)) by omega)]
 refine zR (zc @llRows_len (zc @hI trivial)) (zc hJ trivial) trivial ?_
 refine AWp.loopS (α:=Nat) 38 (fun i=>[(1,.c (.ptr 0 0)),(4,.c (.int .i64 (i : Int)))]) (fun i=>[.box [.int .i64 (k : Int), .slice (eRows es) .none, .slice (llRows ar) .none]]) (fun i=>i ≤ k ∧ chkGo L (2 * L.length) 0 ar = chkGo L (2 * L.length) i (ar.drop i)) (fun i=>k - i) (0) (hk:=Weak.headL 1 38 [1, 4] zW) (h0:=?_) (round:=fun i hI=>?_)
 ·exact ⟨Nat.zero_le _, rfl⟩
 ·obtain ⟨hi, hI2⟩ := hI
  by_cases hlt : i < k
  ·have hltI : (i : Int) < k := by omega
   have hil : i < ar.length := by omega
   have e0 := List.getElem?_eq_getElem hil
   have e1 := llRows_get e0
   have hd := List.drop_eq_getElem_cons hil
   have hl := hLl _ (List.getElem_mem hil)
   generalize ar[i] = l at *
   have hlist := hAr i hltI l hl
   have hg : chkGo L (2 * L.length) i (l :: ar.drop (i + 1)) = if lstErr l (ownL L (i : Int) (2 * L.length)) ≠ 0 then lstErr l (ownL L (i : Int) (2 * L.length)) else chkGo L (2 * L.length) (i + 1) (ar.drop (i + 1)) := rfl
   rw [← hd, ← hI2] at hg
   generalize lstErr l (ownL L (i : Int) (2 * L.length)) = E at *
   by_cases hE : E = 0
   ·rw [if_neg (by omega)] at hg
    subst hE
    refine zR (zc @hltI (zc @llRows_len (zc @hI (zc @e1 trivial)))) (zc hlist trivial) trivial ?_
    refine ⟨i + 1,Weak.headN 1 38 [1, 4] zW,?_,?_⟩
    ·exact ⟨hlt, hg⟩
    ·omega
   ·rw [if_pos hE] at hg
    rw [hg]
    refine zR (zc @hltI (zc @llRows_len (zc @hI (zc @e1 (zc @hE trivial))))) (zc hlist trivial) trivial ?_
    simp [Rets, aret, Blk.cells, ty, Tryz.results15, ares, toT1, toT, borrow, borrow0, capCell, toTree0, tint]
  ·have ei : i = k := by omega
   subst ei
   have hz : chkGo L (2 * L.length) 0 ar = 0 := by rw [hI2, List.drop_eq_nil_of_le (by omega)]; rfl
   have hnl : ¬ ((i : Int) < i) := by omega
   rw [hz]
   refine zR (zc @hnl trivial) trivial trivial ?_
   simp [Rets, aret, Blk.cells, ty, Tryz.results15, ares, toT1, toT, borrow, borrow0, capCell, toTree0, tint]
theorem nextI_at {l : List Int} (hn : l.Nodup) {i : Nat} {x : Int} (h : l[i]? = some x) : l[(i + 1) % l.length]? = some (nextI l x) := by
 have hi := (List.getElem?_eq_some_iff.1 h).1
 have hj : (i + 1) % l.length < l.length := Nat.mod_lt _ (by omega)
 unfold nextI
 rw [idx_at hn h, List.getD_eq_getElem?_getD, List.getElem?_eq_getElem hj]; rfl
theorem nextI_of {l : List Int} (hn : l.Nodup) {i : Nat} {x y : Int} (h : l[i]? = some x) (h2 : l[(i + 1) % l.length]? = some y) : nextI l x = y := by
 unfold nextI; rw [idx_at hn h, List.getD_eq_getElem?_getD, h2]; rfl
theorem rot_get {l : List Int} {k i : Nat} (hk : k ≤ l.length) (hi : i < l.length) : (l.drop k ++ l.take k)[i]? = l[(i + k) % l.length]? := by
 by_cases h : i + k < l.length
 ·rw [List.getElem?_append_left (by rw [List.length_drop]; omega), List.getElem?_drop, Nat.mod_eq_of_lt h, Nat.add_comm]
 ·rw [List.getElem?_append_right (by rw [List.length_drop]; omega), List.length_drop, List.getElem?_take_of_lt (by omega), Nat.mod_eq_sub_mod (by omega), Nat.mod_eq_of_lt (by omega), show i - (l.length - k) = i + k - l.length by omega]
theorem rot_perm (l : List Int) (k : Nat) : (l.drop k ++ l.take k).Perm l := List.perm_append_comm.trans (by rw [List.take_append_drop])
theorem nextI_rot {l : List Int} (hn : l.Nodup) {k : Nat} (hk : k ≤ l.length) {x : Int} (hx : x ∈ l) : nextI (l.drop k ++ l.take k) x = nextI l x := by
 have hp := rot_perm l k
 have hlen := hp.length_eq
 obtain ⟨i, hi, e⟩ := List.mem_iff_getElem.1 (hp.mem_iff.2 hx)
 have h1 := List.getElem?_eq_getElem hi
 rw [e] at h1
 rw [hlen] at hi
 have h2 := h1
 rw [rot_get hk hi] at h2
 have h3 := nextI_at hn h2
 refine nextI_of (hp.nodup_iff.2 hn) h1 ?_
 rw [hlen, rot_get hk (Nat.mod_lt _ (by omega)), Nat.mod_add_mod, show i + 1 + k = i + k + 1 by omega, ← h3, Nat.mod_add_mod]
theorem turn_perm (l : List Int) : (turnL l).Perm l := rot_perm l _
theorem leastN_le (l : List Int) : leastN l ≤ l.length := by
 have := (leastGo_spec l (l.length - 1)).1
 unfold leastN; omega
theorem least_le {m : List Int} {x : Int} (hx : x ∈ m) : m.getD (leastN m) 0 ≤ x := by
 obtain ⟨i, hi, rfl⟩ := List.mem_iff_getElem.1 hx
 have := (leastGo_spec m (m.length - 1)).2.1 i (by omega)
 rw [List.getD_eq_getElem?_getD (i := i), List.getElem?_eq_getElem hi] at this
 exact this
theorem turn_head {m : List Int} (h : m ≠ []) : (turnL m).getD 0 0 = m.getD (leastN m) 0 := by
 have h1 := leastN_lt h
 unfold turnL
 rw [List.getD_eq_getElem?_getD, List.getElem?_append_left (by rw [List.length_drop]; omega), List.getElem?_drop, List.getD_eq_getElem?_getD]; rfl
theorem getD_mem {m : List Int} {i : Nat} (h : i < m.length) : m.getD i 0 ∈ m := by
 rw [List.getD_eq_getElem?_getD, List.getElem?_eq_getElem h]; exact List.getElem_mem h
theorem sorted_head {own : List Int} (hs : own.Pairwise (· < ·)) {x : Int} (hx : x ∈ own) : own.getD 0 0 ≤ x := by
 obtain ⟨k, hk, rfl⟩ := List.mem_iff_getElem.1 hx
 rw [List.pairwise_iff_getElem] at hs
 rw [List.getD_eq_getElem?_getD, List.getElem?_eq_getElem (by omega), Option.getD_some]
 by_cases e : k = 0
 ·subst e; exact Int.le_refl _
 ·have := hs 0 k (by omega) hk (by omega); omega
theorem xor_one (h : Nat) : h ^^^ 1 = oppH h := by
 have h1 : (h ^^^ 1) / 2 = h / 2 := by
  have := Nat.xor_div_two (a := h) (b := 1)
  simpa using this
 have h2 : (h ^^^ 1) % 2 = 1 - h % 2 := by
  rcases Nat.mod_two_eq_zero_or_one h with e | e
  ·have : (h ^^^ 1) % 2 = 1 := by rw [Nat.xor_mod_two_eq_one]; simp [e]
   omega
  ·have : ¬ (h ^^^ 1) % 2 = 1 := by rw [Nat.xor_mod_two_eq_one]; simp [e]
   omega
 unfold oppH; omega
theorem xor_bits (h : Nat) (hh : h < 2 ^ 40) : IntKind.i64.wrap (((BitVec.ofInt IntKind.i64.bits (h : Int) ^^^ BitVec.ofInt IntKind.i64.bits 1).toNat : Nat) : Int) = ((oppH h : Nat) : Int) := by
 have e1 : (BitVec.ofInt IntKind.i64.bits (h : Int)).toNat = h := by
  rw [BitVec.toNat_ofInt]
  show ((h : Int) % ((2 ^ 64 : Nat) : Int)).toNat = h
  omega
 have e2 : (BitVec.ofInt IntKind.i64.bits 1).toNat = 1 := by decide
 rw [BitVec.toNat_xor, e1, e2, xor_one]
 exact wrap_in ⟨by omega, by unfold oppH; omega⟩
theorem opposite_ok (h : Nat) (hh : h < 2 ^ 40) : ACall Tryz.prog 59 [tint h] (tint (oppH h : Nat)) := by
 have hx : ibit .xor .i64 (h : Int) 1 = ((oppH h : Nat) : Int) := xor_bits h hh
 refine ACall.of_body Tryz.func59 rfl (by kernel_rfl) ?_
 simp only [entry, Tryz.ntmps59, tint]
 refine zU ?_
 refine zR (zc @hx trivial) trivial trivial ?_
 simp [Rets, aret, Blk.cells, ty, Tryz.results59, ares, toT1, toT, borrow, borrow0, capCell, toTree0, tint]
@[simp] theorem it_zero (f : Nat → Nat) (s : Nat) : it f 0 s = s := rfl
def itemsN (l : List Nat) : List (List TVal) := l.map fun x : Nat => [tint (x : Int)]
theorem itemsN_len (l : List Nat) : (itemsN l).length = l.length := by simp [itemsN]
theorem itemsN_get {l : List Nat} {i x : Nat} (h : l[i]? = some x) : (itemsN l)[i]? = some [tint (x : Int)] := by simp [itemsN, h]
theorem itemsN_inv {l : List Nat} {i : Nat} {ts : List TVal} (h : (itemsN l)[i]? = some ts) : ∃ x, l[i]? = some x ∧ ts = [tint (x : Int)] := by
 simp only [itemsN, List.getElem?_map] at h
 cases hl : l[i]? with
 | none => simp [hl] at h
 | some p => simp [hl] at h; exact ⟨p, rfl, h.symm⟩
theorem orbit1_ok {N : Nat} {f : Nat → Nat} (hp : PermN N f) (hN : N < 2 ^ 30) (nexts : List Int) (hnl : nexts.length = N) (hev : ∀ x, x < N → oppH x < N) (hnx : ∀ x, x < N → nexts[oppH x]? = some ((f x : Nat) : Int)) (s : Nat) (hs : s < N) :
  AIter Tryz.prog 133 [.rptr [.int .i64 (s : Int)], .rptr [.slice (iRows nexts)]] (itemsN (faceF f N s)) := by
 obtain ⟨p, h1, h2, h3, h4, h5⟩ := face_spec hp hs
 rw [h5]
 have hget : ∀ k, k < p → (itemsN ((List.range p).map fun i => it f i s))[k]? = some [tint ((it f k s : Nat) : Int)] := fun k hk => itemsN_get (by simp [hk])
 have hlenI : (itemsN ((List.range p).map fun i => it f i s)).length = p := by rw [itemsN_len]; simp
 generalize itemsN ((List.range p).map fun i => it f i s) = xs at *
 refine AIter.of_body Tryz.func133 rfl (by kernel_rfl) rfl (fun l J Jx hJ hJx hY => ?_)
 simp only [entry, Tryz.ntmps133, ofT, ofT1, ofTree, List.map_cons, List.map_nil, List.length_cons, List.length_nil, Nat.reduceAdd, Nat.reduceSub, List.replicate_succ, List.replicate_zero, List.cons_append, List.nil_append]
 refine zR trivial trivial trivial ?_
 refine AWp.loopS (α:=Nat) 20 (fun k=>[(0,.c (.yld l)),(1,.c (.rptr [.int .i64 (s : Int)])),(2,.c (.rptr [.slice (iRows nexts)])),(4,.c (.int .i64 ((it f k s : Nat) : Int))),(5,.c (.bool (decide (k = 0) || decide (k < p))))]) (fun k=>[.ghost (J k)]) (fun k=>k ≤ p) (fun k=>p - k) (0) (hk:=Weak.headL 1 20 [0, 1, 2, 4, 5] zW) (h0:=?_) (round:=fun k hI=>?_)
 ·exact Nat.zero_le _
 ·have hk : k ≤ p := hI
  clear hI
  by_cases hlt : k < p
  ·have hgk := hget k hlt
   have hxl := hp.it_lt hs k
   have hO := opposite_ok (it f k s) (by omega)
   have hol := hev _ hxl
   have hnk := iRows_get (hnx _ hxl)
   have hit : f (it f k s) = it f (k + 1) s := rfl
   rw [hit] at hnk
   have hmore : (((it f (k + 1) s : Nat) : Int) = (s : Int)) ↔ ¬ (k + 1 < p) := by
    constructor
    ·intro e hc
     exact h4 (k + 1) (by omega) hc (by omega)
    ·intro hc
     have : k + 1 = p := by omega
     rw [this, h3]
   have hdec : (decide (k = 0) || decide (k < p)) = true := by simp [hlt]
   rw [hdec]
   have holI : ((oppH (it f k s) : Nat) : Int) < (nexts.length : Int) := by omega
   repeat' (first|((with_reducible refine AWp.seq (AWp.of_reg (id:=4) (AReg.pre 2 (fun K hK=>?_))));simp only [List.take_succ_cons,List.take_zero])|((with_reducible refine AWp.of_reg (id:=4) (AReg.pre 2 (fun K hK=>?_)));simp only [List.take_succ_cons,List.take_zero])|((first|(refine zT ?_;intro K' hK')|(refine zG ?_ ?_<;>(try refine zH ?_)<;>intro hguard<;>(try exact zX)<;>try intro K' hK'))<;>((try simp +contextual only [go_sem]);(repeat' first|(with_reducible refine hK' _ _ ?_;clear hK' K')|exact zY|with_reducible refine And.intro ?_ ?_|(with_reducible intro hpath;try exact zP)|(refine hK' _ _ ?_;clear hK' K')|fail);try refine zS ?_))|(refine zE ?_;refine hK _ _ ?_;clear hK K)|(refine zN ?_;try refine zS ?_)|refine zA ?_|(refine zB ?_;intro K hK)|(refine zC ?_ ?_<;>(try refine zH ?_)<;>intro hcond<;>try exact zX)|fail)
   simp only [List.drop_succ_cons, List.drop_zero]
   refine AReg.yield rfl rfl rfl (by rfl) (by with_unfolding_all rfl) (by simp [okBlk]) (hY _ _ hgk) (hJ _) hJx ?_ ?_ <;> (try refine zS ?_) <;> refine AReg.rest (fun K hK => ?_)
   ·
    repeat' (first|((first|(refine zT ?_;intro K' hK')|(refine zG ?_ ?_<;>(try refine zH ?_)<;>intro hguard<;>(try exact zX)<;>try intro K' hK'))<;>((try simp +contextual only [go_sem, iRows_len, holI, hnk, Int.toNat_natCast]);(repeat' first|(with_reducible refine hK' _ _ ?_;clear hK' K')|(with_reducible refine zK hO ?_;try simp +contextual only [go_sem, iRows_len, holI, hnk, Int.toNat_natCast])|exact zY|with_reducible refine And.intro ?_ ?_|(with_reducible intro hpath;try exact zP)|(refine hK' _ _ ?_;clear hK' K')|fail);try refine zS ?_))|(refine zE ?_;refine hK _ _ ?_;clear hK K)|(refine zN ?_;try refine zS ?_)|refine zA ?_|(refine zB ?_;intro K hK)|(refine zC ?_ ?_<;>(try refine zH ?_)<;>intro hcond<;>try exact zX)|fail)
    have hb : (!decide (((it f (k + 1) s : Nat) : Int) = (s : Int))) = (decide (k + 1 = 0) || decide (k + 1 < p)) := by
     by_cases hc : k + 1 < p
     ·rw [decide_eq_true hc, decide_eq_false (fun e => (hmore.1 e) hc)]; simp
     ·rw [decide_eq_false hc, decide_eq_true (hmore.2 hc)]; simp
    rw [hb]
    refine ⟨k + 1,Weak.headN 1 20 [0, 1, 2, 4, 5] zW,?_,?_⟩
    ·exact hlt
    ·omega
   ·
    repeat' (first|((first|(refine zT ?_;intro K' hK')|(refine zG ?_ ?_<;>(try refine zH ?_)<;>intro hguard<;>(try exact zX)<;>try intro K' hK'))<;>((try simp +contextual only [go_sem]);(repeat' first|(with_reducible refine hK' _ _ ?_;clear hK' K')|exact zY|with_reducible refine And.intro ?_ ?_|(with_reducible intro hpath;try exact zP)|(refine hK' _ _ ?_;clear hK' K')|fail);try refine zS ?_))|(refine zE ?_;refine hK _ _ ?_;clear hK K)|(refine zN ?_;try refine zS ?_)|refine zA ?_|(refine zB ?_;intro K hK)|(refine zC ?_ ?_<;>(try refine zH ?_)<;>intro hcond<;>try exact zX)|fail)
    exact ⟨True.intro, _, .inr rfl⟩
  ·have ek : k = p := by omega
   have hdec : (decide (k = 0) || decide (k < p)) = false := by simp; omega
   rw [hdec]
   refine zR trivial trivial trivial ?_
   exact ⟨True.intro, _, .inl (by rw [hlenI, ek])⟩
theorem orbit_ok (nexts : List Int) (s : Nat) : ACall Tryz.prog 91 [tints nexts, tint s] (.t (.fn 133 [.rptr [.int .i64 (s : Int)], .rptr [.slice (iRows nexts)]])) := by
 refine ACall.of_body Tryz.func91 rfl (by kernel_rfl) ?_
 simp only [entry, Tryz.ntmps91, tints, tint]
 refine zU ?_
 refine zR trivial trivial trivial ?_
 simp [Rets, aret, Blk.cells, ty, Tryz.results91, ares, toT1, toT, borrow, borrow0, capCell, toTree0]
def sameR (a b : R) : Bool := decide (a.n = b.n) && (decide (a.es = b.es) && decide (a.ar = b.ar))
theorem sameR_iff (a b : R) : sameR a b = true ↔ a = b := by
 obtain ⟨n, es, ar⟩ := a
 obtain ⟨n', es', ar'⟩ := b
 simp [sameR]
end Go.Proofs.YtfkegnhpihoncaaGreat
