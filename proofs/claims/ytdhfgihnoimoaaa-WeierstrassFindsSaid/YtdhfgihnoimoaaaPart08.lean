/- A part of the proof. -/
import Derived.Test.YtdhfgihnoimoaaaPart07
import Derived.Test.YtdhfgihnoimoaaaLayerC
import Derived.Test.YtdhfgihnoimoaaaPart06
set_option linter.all false
set_option maxHeartbeats 4000000
set_option maxRecDepth 100000
namespace Go.Proofs.Ytdhfgihnoimoaaa
open Go.Sp
def genStep (s : List Nat × Int) (p : Int × Int) : List Nat × Int :=
 let a := rootF s.1 12 p.1.toNat
 let b := rootF s.1 12 p.2.toNat
 (s.1.set (max a b) (min a b), if a = b then s.2 + 1 else s.2)
def genS (l : List (Int × Int)) : List Nat × Int := l.foldl genStep (List.range 12, 0)
def genL (l : List (Int × Int)) : Int := (genS l).2
theorem genS_snoc (l : List (Int × Int)) (p : Int × Int) : genS (l ++ [p]) = genStep (genS l) p := by simp [genS]
theorem genStep_ok {s : List Nat × Int} {p : Int × Int} (h : FOk s.1) (h1 : 0 ≤ p.1 ∧ p.1 < 12) (h2 : 0 ≤ p.2 ∧ p.2 < 12) : FOk (genStep s p).1 := by
 refine ⟨by simp [genStep, h.len], fun i hi => ?_⟩
 simp only [genStep] at hi ⊢
 rw [List.getElem_set]
 split
 ·omega
 ·exact h.le i (by simpa using hi)
theorem genS_ok {l : List (Int × Int)} (h : ∀ p, p ∈ l → (0 ≤ p.1 ∧ p.1 < 12) ∧ (0 ≤ p.2 ∧ p.2 < 12)) : FOk (genS l).1 ∧ 0 ≤ (genS l).2 ∧ (genS l).2 ≤ l.length := by
 have key : ∀ (l : List (Int × Int)) (s : List Nat × Int), FOk s.1 → (∀ p, p ∈ l → (0 ≤ p.1 ∧ p.1 < 12) ∧ (0 ≤ p.2 ∧ p.2 < 12)) → FOk (l.foldl genStep s).1 ∧ s.2 ≤ (l.foldl genStep s).2 ∧ (l.foldl genStep s).2 ≤ s.2 + l.length := by
  intro l
  induction l with
  | nil => intro s hs _; simp; exact hs
  | cons p l ih =>
   intro s hs hp
   have hp1 := hp p (by simp)
   obtain ⟨q1, q2, q3⟩ := ih (genStep s p) (genStep_ok hs hp1.1 hp1.2) fun q hq => hp q (by simp [hq])
   refine ⟨q1, ?_, ?_⟩
   ·refine Int.le_trans ?_ q2; simp only [genStep]; split <;> omega
   ·refine Int.le_trans q3 ?_; simp only [genStep, List.length_cons]; split <;> omega
 have := key l (List.range 12, 0) ⟨by simp, fun i hi => by simp⟩ h
 unfold genS
 simpa using this
theorem fC_set (F : List Nat) (i n : Nat) : setMany (fC F) i [.int .i64 (n : Int)] = fC (F.set i n) := by
 simp only [setMany, fC]
 rw [List.map_set]
theorem fC_set2 (F : List Nat) (i n : Nat) : (fC F).set i (.int .i64 (n : Int)) = fC (F.set i n) := by
 simp only [fC]
 rw [List.map_set]
theorem genS_len (l : List (Int × Int)) : (genS l).1.length = 12 := by
 have key : ∀ (l : List (Int × Int)) (s : List Nat × Int), s.1.length = 12 → (l.foldl genStep s).1.length = 12 := by
  intro l
  induction l with
  | nil => intro s hs; exact hs
  | cons p l ih => intro s hs; exact ih _ (by simp [genStep, hs])
 exact key l _ (by simp)
theorem fC_genS (l : List (Int × Int)) : ¬ fC (genS l).1 = [] := fun h => by
 have := congrArg List.length h
 simp [fC, genS_len] at this
theorem fC_len (F : List Nat) : (fC F).length = F.length := by simp [fC]
theorem endsL_mem {es : List E} {p : Int × Int} (h : p ∈ endsL es) : ∃ e, e ∈ es ∧ p = (e.a, e.b) := by
 unfold endsL at h
 obtain ⟨e, he, hp⟩ := List.mem_flatMap.1 h
 exact ⟨e, he, (List.mem_replicate.1 hp).2⟩
theorem ends_range {g : G} (hc : checkG g = 0) {p : Int × Int} (h : p ∈ endsL g.es) : (0 ≤ p.1 ∧ p.1 < g.n) ∧ (0 ≤ p.2 ∧ p.2 < g.n) := by
 obtain ⟨e, he, rfl⟩ := endsL_mem h
 have := (checkG_zero.1 hc).2.1 e he
 unfold okE at this
 simp only; omega
theorem mapM_fT (F : List Nat) : (fC F).mapM toTree0 = some (fT F) := by
 induction F with
 | nil => rfl
 | cons x xs ih =>
  simp only [fC, fT, List.map_cons, List.mapM_cons, toTree0] at ih ⊢
  rw [ih]; rfl
theorem root_call (F : List Nat) (h : FOk F) (v : Nat) (hv : v < 12) {H : List Blk} {id : Nat} (hb : H[id]? = some (.box (fC F))) :
  ACallH Try.prog 79 H [.c (.ptr id 0), .c (.int .i64 (v : Int))] H (.c (.int .i64 (rootF F 12 v : Nat))) :=
 ACall.hb (root_ok F h v hv) (by simp [toT, borrow, borrow0, hb, Blk.cells, mapM_fT, toTree0, tint]) rfl
def initF (i : Nat) : List Nat := List.range i ++ List.replicate (12 - i) 0
theorem initF_set {i : Nat} (h : i < 12) : (initF i).set i i = initF (i + 1) := by
 unfold initF
 rw [show 12 - i = (12 - (i + 1)) + 1 by omega, List.replicate_succ, List.range_succ]
 rw [List.set_append_right _ _ (by simp)]
 simp
theorem initF_len {i : Nat} (h : i ≤ 12) : (initF i).length = 12 := by unfold initF; simp; omega
theorem initF_12 : initF 12 = List.range 12 := by unfold initF; simp
theorem Genus_ok (g : G) (hl : g.es.length < 2 ^ 30) : ACall Try.prog 59 [tG g] (.tup [tint (if checkG g ≠ 0 then 0 else genL (endsL g.es)), tint (checkG g)]) := by
 refine ACall.of_body Try.func59 rfl (by kernel_rfl) ?_
 simp only [entry, Try.ntmps59, tG]
 refine zU ?_
 repeat' (first|((first|(refine zT ?_;intro K' hK')|(refine zG ?_ ?_<;>(try refine zH ?_)<;>intro hguard<;>(try exact zX)<;>try intro K' hK'))<;>((try simp +contextual only [go_sem]);(repeat' first|(with_reducible refine hK' _ _ ?_;clear hK' K')|(with_reducible refine zL (c:=Check_ok g (by omega)) (q:=?_);try simp +contextual only [go_sem])|exact zY|with_reducible refine And.intro ?_ ?_|(with_reducible intro hpath;try exact zP)|(refine hK' _ _ ?_;clear hK' K')|fail);try refine zS ?_))|(refine zE ?_;refine hK _ _ ?_;clear hK K)|(refine zN ?_;try refine zS ?_)|refine zA ?_|(refine zB ?_;intro K hK)|(refine zC ?_ ?_<;>(try refine zH ?_)<;>intro hcond<;>try exact zX)|fail)
 ·rw [if_pos (by assumption)]
  simp [Rets, aret, Blk.cells, ty, Try.results59, ares, toT1, toT, borrow, borrow0, capCell, toTree0, tint]
 ·rw [if_neg (by omega)]
  have hc : checkG g = 0 := by omega
  have hs := sm_of hl hc
  refine AWp.loopS (α:=Nat) 47 (fun i=>[(1,.c (.ptr 0 0)),(5,.c (.ptr 1 0)),(17,.c (.int .i64 (i : Int)))]) (fun i=>[.box [.int .i64 g.n, .slice (eRows g.es) .none], .box (fC (initF i))]) (fun i=>i ≤ 12) (fun i=>12 - i) (0) (hk:=Weak.headL 2 47 [1, 5, 17] zW) (h0:=?_) (round:=fun i hI=>?_)
  ·exact Nat.zero_le _
  ·by_cases hlt : i < 12
   ·have hset := initF_set hlt
    have hlen := initF_len hI
    generalize initF i = F at *
    refine zR (zc @fC_len (zc @hlen (zc @fC_set (zc @fC_set2 (zc @hset trivial))))) trivial trivial ?_
    refine ⟨i + 1,Weak.headN 2 47 [1, 5, 17] zW,?_,?_⟩
    ·exact hlt
    ·omega
   ·have ei : i = 12 := by omega
    subst ei
    refine zR trivial (zc (singles_ok g) trivial) trivial ?_
    refine AWp.weak (Weak.head (m := 3) (by omega) ((fun t f => [f, t, f, f, f, t, f, t, f, f, f, f, f, f, f, f, f, f, f, f, f, f, f, f, f, t, f, f, f, f, f, f, f, f, f, f, f, f, f, f, f, f, f, f, f, f, f]) true false) (by first | rfl | simp [mask]) (by first | rfl | simp) (by (repeat' (first | exact valsIn_nil _ | refine valsIn_cons ?_ ?_ | refine cellsIn_cons ?_ ?_ | exact cellsIn_nil _ | exact True.intro | (show _ < _; omega) | (intro c hc; cases hc; done) | (intro c hc; simp only [List.mem_cons, List.not_mem_nil, or_false] at hc; subst hc; first | exact True.intro | (show _ < _; omega)) | (intro c hc; simp only [List.mem_cons, List.not_mem_nil, or_false] at hc; rcases hc with rfl | rfl <;> first | exact True.intro | (show _ < _; omega))))) (by (repeat' (first | exact valsIn_nil _ | exact blksIn_nil _ | exact cellsIn_nil _ | refine And.intro ?_ ?_ | refine valsIn_cons ?_ ?_ | refine blksIn_cons ?_ ?_ | refine cellsIn_cons ?_ ?_ | exact True.intro | (show _ < _; omega) | exact cellsIn_map (fun _ => True.intro) | (intro c hc; cases hc; done) | (intro c hc; simp only [List.mem_cons, List.not_mem_nil, or_false] at hc; subst hc; first | exact True.intro | (show _ < _; omega)) | (intro c hc; simp only [List.mem_cons, List.not_mem_nil, or_false] at hc; rcases hc with rfl | rfl <;> first | exact True.intro | (show _ < _; omega)))))) (AWp.rangeFunc (fun k H => H = [.box [.int .i64 g.n, .slice (eRows g.es) .none], .box (fC (genS ((endsL g.es).take k)).1), .box [.int .i64 (genS ((endsL g.es).take k)).2]] ∧ (True)) (fun _ _ => False) 3 rfl (singles1_ok g hs.s hs.es hs.m) (itemsP_ps rfl) (by omega) (by (repeat' (first | exact valsIn_nil _ | refine valsIn_cons ?_ ?_ | refine cellsIn_cons ?_ ?_ | exact cellsIn_nil _ | exact True.intro | (show _ < _; omega) | (intro c hc; cases hc; done) | (intro c hc; simp only [List.mem_cons, List.not_mem_nil, or_false] at hc; subst hc; first | exact True.intro | (show _ < _; omega)) | (intro c hc; simp only [List.mem_cons, List.not_mem_nil, or_false] at hc; rcases hc with rfl | rfl <;> first | exact True.intro | (show _ < _; omega))))) (by rintro _ _ ⟨rfl, -⟩; simp [fC_genS]) (fun _ _ h => h.elim) ?_ (fun l k ts H hts hI => ?_) (fun H hI => ?_) (fun e H h => h.elim))
    ·exact ⟨by rw [initF_12]; simp [genS], trivial⟩
    ·obtain ⟨rfl, -⟩ := hI
     obtain ⟨p, hp, rfl⟩ := itemsP_inv hts
     have hrng := ends_range hc (List.mem_of_getElem? hp)
     have hn12 := (checkG_zero.1 hc).1
     have hok := genS_ok (l := (endsL g.es).take k) fun q hq => by
      have := ends_range hc (List.mem_of_mem_take hq); omega
     have hk : k < (endsL g.es).length := (List.getElem?_eq_some_iff.1 hp).1
     have hkl : ((endsL g.es).take k).length ≤ k := by rw [List.length_take]; omega
     have hsn := take_snoc hp
     have hnx := genS_snoc ((endsL g.es).take k) p
     rw [← hsn] at hnx
     have hs3 := hs.s
     obtain ⟨p1, p2⟩ := p
     obtain ⟨a, rfl⟩ := Int.eq_ofNat_of_zero_le hrng.1.1
     obtain ⟨b, rfl⟩ := Int.eq_ofNat_of_zero_le hrng.2.1
     have ha : a < 12 := by omega
     have hb : b < 12 := by omega
     generalize genS ((endsL g.es).take k) = s at *
     obtain ⟨F, c⟩ := s
     have hF := hok.1
     have la := rootF_le hF (n := 12) ha
     have lb := rootF_le hF (n := 12) hb
     simp only [genStep, Int.toNat_natCast] at hnx
     simp only [mask, setPs, List.zip_cons_cons, List.zip_nil_right, List.zip_nil_left, List.foldl_cons, List.foldl_nil, List.set_cons_succ, List.set_cons_zero, ofT, ofT1, ofTree, List.map_cons, List.map_nil, ofT, ofT1, toT, toT1, toTree0, tint, tbool, tpair, tG, tpairs, tints]
     generalize hx : rootF F 12 a = x at *
     generalize hy : rootF F 12 b = y at *
     have hmax : max (x : Int) (y : Int) = ((max x y : Nat) : Int) := by omega
     have hmin : min (x : Int) (y : Int) = ((min x y : Nat) : Int) := by omega
     have rx := root_call F hF a ha (H := [.box [.int .i64 g.n, .slice (eRows g.es) .none], .box (fC F), .box [.int .i64 c], .box [.int .i64 (a : Int), .int .i64 (b : Int)]]) (id := 1) rfl
     have ry := root_call F hF b hb (H := [.box [.int .i64 g.n, .slice (eRows g.es) .none], .box (fC F), .box [.int .i64 c], .box [.int .i64 (a : Int), .int .i64 (b : Int)]]) (id := 1) rfl
     rw [hx] at rx
     rw [hy] at ry
     repeat' (first|((first|(refine zT ?_;intro K' hK')|(refine zG ?_ ?_<;>(try refine zH ?_)<;>intro hguard<;>(try exact zX)<;>try intro K' hK'))<;>((try simp +contextual only [go_sem, Int.toNat_natCast, Nat.mul_one, fC_len, fC_set, fC_set2, hmax, hmin, hF.len]);(repeat' first|(with_reducible refine hK' _ _ ?_;clear hK' K')|((with_reducible first|refine ⟨_,_,rx,?_⟩|refine ⟨_,rx,?_⟩|refine ⟨_,_,ry,?_⟩|refine ⟨_,ry,?_⟩);try simp +contextual only [go_sem, Int.toNat_natCast, Nat.mul_one, fC_len, fC_set, fC_set2, hmax, hmin, hF.len])|exact zY|with_reducible refine And.intro ?_ ?_|(with_reducible intro hpath;try exact zP)|(refine hK' _ _ ?_;clear hK' K')|fail);try refine zS ?_))|(refine zE ?_;refine hK _ _ ?_;clear hK K)|(refine zN ?_;try refine zS ?_)|refine zA ?_|(refine zB ?_;intro K hK)|(refine zC ?_ ?_<;>(try refine zH ?_)<;>intro hcond<;>try exact zX)|fail)
     all_goals
      refine ⟨⟨_, _⟩, Weak.head2 (m := 3) (by decide) ((fun t f => [f, f, f, f, f, f, f, f, f, f, f, f, f, f, f, f, f, f, f, f, f, f, f, f, f, f, f, f, f, f, f, f, f, f, f, f, f, f, f, f, f, f, f, f, f, f, f]) true false) rfl rfl zW, ?_, ?_⟩
      ·have hxy : (x = y) ∨ ¬ (x = y) := Classical.em _
       have hg : genS (List.take (k + 1) (endsL g.es)) = (F.set (max x y) (min x y), if x = y then c + 1 else c) := hnx
       rw [hg]
       rcases hxy with hxy | hxy
       ·first
         | (simp [hxy]; done)
         | (exfalso; omega)
       ·first
         | (simp [hxy]; done)
         | (exfalso; omega)
      ·trivial
    ·obtain ⟨rfl, -⟩ := hI
     simp only [mask]
     have e0 : checkG g = 0 := hc
     refine zR trivial trivial trivial ?_
     simp [Rets, aret, Blk.cells, ty, Try.results59, ares, toT1, toT, borrow, borrow0, capCell, toTree0, tint, itemsP_len, e0, genL]
structure NOrd (L : List (Int × Int)) (zs : List Nat) : Prop where
 p : zs.Perm (List.range L.length)
 s : zs.Pairwise (ltN L)
end Go.Proofs.Ytdhfgihnoimoaaa
