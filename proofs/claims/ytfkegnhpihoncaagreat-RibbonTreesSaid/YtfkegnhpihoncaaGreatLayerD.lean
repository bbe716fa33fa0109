/- Our layer over the machine: values of a running function as plain data, and the rules by which they step; part 4. -/
import Derived.Test.YtfkegnhpihoncaaGreatLayerC
import Derived.Test.YtfkegnhpihoncaaGreatLayerB
import Derived.Shelf.SlSortCmp.Whole1
import Derived.WideLaws
import Derived.Test.YtfkegnhpihoncaaGreatSpOpen
set_option linter.all false
namespace Go.Sp
open Go.RowKit
section
variable {P : Program} {h : Nat} {Q : Exit → St → Prop} {all : Array Oper} {tm : List AVal} {H : List Blk} {o : Oper} {ρ : Operand → AVal}
def YldR (H1 : List Blk) (G' Gx : Sig → World → Prop) (r : AVal) (H' : List Blk) : Prop :=
 (r = .c (.bool true) ∧ H' = .ghost G' :: H1) ∨ (r = .c (.bool false) ∧ H' = .ghost Gx :: H1)
theorem step_yield {H1 : List Blk} {G G' Gx : Sig → World → Prop} {x : Operand} {xs : Array Operand} {ats : Array TypeId} (ho : o.op = .call { callee := .value x, args := xs, argTypes := ats }) {l : Nat} (hx : ρ x = .c (.yld l))
  {ts : List TVal} (ha : (xs.toList.map ρ).mapM (toT toTree0) = some ts) (hok : ∀ blk, blk ∈ H1 → okBlk blk) (hY : YStep P l G ts G' Gx) (hc : Clo G') (hcx : Clo Gx) : AStepN P none o ρ (.ghost G :: H1) (YldR H1 G' Gx) := by
 intro ι σ a w hxx hH _ next Q hn
 refine ⟨fun _ _ => trivial, ?_⟩
 rw [Oper.semAt_eq _ _ _ (by simp [ho])]
 have ev := hxx x (by simp [Op.operands, Call.operands, ho])
 rw [hx] at ev
 have ev' : a.eval x = .func (.yield l) #[] #[] := ev
 obtain ⟨m1, m2⟩ := mapM_get ha
 have hG : G σ w := by
  have h0 : ∃ b, ι[0]? = some b := ⟨ι[0]'(by rw [hH.1]; simp), List.getElem?_eq_getElem _⟩
  obtain ⟨b, hb⟩ := h0
  exact (hH.2 0 _ b rfl hb).1
 obtain ⟨fn, tmps, assign, body, hy, hR⟩ := hY σ w (xs.toList.map a.eval) hG (by simpa using m1.symm) (fun j t u h1 h2 => by
  have hlt : j < xs.toList.length := by have := (List.getElem?_eq_some_iff.1 h2).1; simpa using this
  have hq := List.getElem?_eq_getElem hlt
  simp only [List.getElem?_map, hq, Option.map_some, Option.some.injEq] at h2
  subst h2
  exact toT_rel (fun c t v h3 h4 => toTree0_rel h3 h4) (hxx _ (by simp [Op.operands, Call.operands, ho])) (m2 j _ t (by simp [hq]) h1))
 have hrun : (execOp a.eval o).run P w = .ok (.round l fn tmps assign body) w := by
  have e1 : (xs.toList.map a.eval).toArray = xs.map a.eval := by apply Array.ext'; simp
  rw [e1] at hy
  simp [execOp, ho, resolve, ev', Deferred.ofValue, invoke, hy]
 rw [hrun]
 refine ⟨fun h => by simp [Fr] at h, hR.mono ?_⟩
 rintro e w' ⟨σ', g, hcase⟩
 rcases hcase with ⟨rfl, h1⟩ | ⟨rfl, h1⟩
 ·exact hn _ _ _ w' ι σ' (.inl ⟨rfl, rfl⟩) rfl (g.heap hH hok h1 hc) g.mono g.ext
 ·exact hn _ _ _ w' ι σ' (.inr ⟨rfl, rfl⟩) rfl (g.heap hH hok h1 hcx) g.mono g.ext
theorem ADr.run {rd : Option Nat} {k : Nat} (n : Nat) (hc : ((List.range n).all fun i => cutAt all (k + i)) = true) (hn : k + n ≤ all.size)
  (hv : ∀ K : List AVal → List Blk → Prop, (∀ tm' H', ADr P rd h all (k + n) Q tm' H' → K tm' H') → vcOps P all ((all.toList.drop k).take n) tm H K) : ADr P rd h all k Q tm H := by
 obtain ⟨tm', H', h1, h2⟩ := vcOps_sound (rd := rd) (hv (fun tm' H' => ADr P rd h all (k + n) Q tm' H') (fun _ _ h => h))
 have key : ∀ (l : List Oper) (k0 : Nat) (tm : List AVal) (H : List Blk) (tm' : List AVal) (H' : List Blk), Run P rd all l tm H tm' H' → ADr P rd h all (k + n) Q tm' H' → (∀ j, j < l.length → all[k0 + j]? = l[j]?) → k0 + l.length = k + n → (∀ j, j < l.length → cutAt all (k0 + j) = true) → ADr P rd h all k0 Q tm H := by
  clear h1 h2 hv
  intro l k0 tm H tm' H' hr h2
  induction hr generalizing k0 with
  | nil tm H => intro _ e _; simp at e; subst e; exact h2
  | exec hg hs hr ih =>
   rename_i o rest _ _ _ _ _ rv
   intro q1 q2 q3
   refine ADr.one (by simpa using q3 0 (by simp)) (o := o) (by simpa using q1 0 (by simp)) (.inl ⟨hg, hs.n⟩) ?_
   rintro r H1 ⟨rfl, rfl⟩
   exact ih (k0 + 1) h2 (fun j hj => by have := q1 (j + 1) (by simp; omega); simpa [Nat.add_assoc, Nat.add_comm 1 j] using this) (by simp at q2; omega) (fun j hj => by have := q3 (j + 1) (by simp; omega); rwa [show k0 + (j + 1) = k0 + 1 + j by omega] at this)
  | skip hg hr ih =>
   rename_i o rest _ _ _ _
   intro q1 q2 q3
   refine ADr.one (R := fun r H1 => r = .tup [] ∧ H1 = _) (by simpa using q3 0 (by simp)) (o := o) (by simpa using q1 0 (by simp)) (.inr ⟨hg, rfl, rfl⟩) ?_
   rintro r H1 ⟨rfl, rfl⟩
   exact ih (k0 + 1) h2 (fun j hj => by have := q1 (j + 1) (by simp; omega); simpa [Nat.add_assoc, Nat.add_comm 1 j] using this) (by simp at q2; omega) (fun j hj => by have := q3 (j + 1) (by simp; omega); rwa [show k0 + (j + 1) = k0 + 1 + j by omega] at this)
 have hl : ((all.toList.drop k).take n).length = n := by simp; omega
 refine key _ k tm H tm' H' h1 h2 (fun j hj => ?_) (by rw [hl]) (fun j hj => ?_)
 ·rw [hl] at hj
  rw [List.getElem?_take_of_lt hj, List.getElem?_drop]; simp
 ·rw [hl] at hj
  exact List.all_eq_true.1 hc j (List.mem_range.2 hj)
def quietL (P : Program) (all : Array Oper) (tmA : List AVal) (H : List Blk) (p : Nat) : Nat → List Oper → Prop
 | _, [] => True
 | i, o :: os => (i = p ∨ ((gwant all tmA o = some true ∧ aop P (aeval tmA) H o.op (fun rv H1 => (∀ d, o.dst = some d → rv = tmA.getD d (.c .any)) ∧ H1 = H)) ∨
   (gwant all tmA o = some false ∧ ∀ d, o.dst = some d → tmA.getD d (.c .any) = .tup []))) ∧ quietL P all tmA H p (i + 1) os
theorem quietL_spec {rd : Option Nat} {tmA : List AVal} {p : Nat} : ∀ (os : List Oper) (i : Nat), quietL P all tmA H p i os → ∀ (j : Nat) x, os[j]? = some x → i + j ≠ p → QuietAt P rd all tmA H x
 | [], i, _, j, x, hx, _ => by simp at hx
 | o :: os, i, hq, j, x, hx, hp => by
  obtain ⟨h1, h2⟩ := hq
  cases j with
  | zero =>
   simp at hx; subst hx
   rcases h1 with h1 | ⟨hg, h1⟩ | ⟨hg, h1⟩
   ·exact absurd h1 (by simpa using hp)
   ·refine .inl ⟨hg, fun d hd => ?_⟩
    obtain ⟨rv, H1, s1, s2, rfl⟩ := aop_sound (rd := rd) h1
    rw [← s2 d hd]; exact s1
   ·exact .inr ⟨hg, h1⟩
  | succ j =>
   exact quietL_spec os (i + 1) h2 j x (by simpa using hx) (by omega)
def setVals (tm : List AVal) : List (Nat × AVal) → List AVal
 | [] => tm
 | (t, v) :: l => setVals (tm.set t v) l
theorem setVals_len : ∀ (l : List (Nat × AVal)) (tm : List AVal), (setVals tm l).length = tm.length
 | [], tm => rfl
 | (t, v) :: l, tm => by rw [setVals, setVals_len l]; simp
theorem setVals_ne {t : Nat} : ∀ (l : List (Nat × AVal)) (tm : List AVal), (∀ x, x ∈ l → x.1 ≠ t) → (setVals tm l)[t]? = tm[t]?
 | [], tm, _ => rfl
 | (s, v) :: l, tm, hh => by
  rw [setVals, setVals_ne l _ (fun x hx => hh x (by simp [hx]))]
  rw [List.getElem?_set_ne (hh (s, v) (by simp))]
theorem ADr.seg' {rd : Option Nat} {k : Nat} (m p : Nat) (vals : List (Nat × AVal)) (hs : segOk all k m p = true) (hvs : (vals.map (·.1)).all (fun t => (List.range all.size).any fun i => decide (k ≤ i) && decide (i < m) && decide (i ≠ p) && (dstOf all i == some t)) = true)
  {op : Oper} {rest : List Oper} (hop0 : all.toList.drop p = op :: rest) {R : AVal → List Blk → Prop} (hp : OpN P rd all (setVals tm vals) H op R) (hq : quietL P all (setVals tm vals) H p k ((all.toList.drop k).take (m - k)))
  (hq' : ∀ r H', R r H' → quietL P all (setVals tm vals) H' p k ((all.toList.drop k).take (m - k))) (hK : ∀ r H', R r H' → ADr P rd h all m Q (aput (setVals tm vals) op.dst r) H') : ADr P rd h all k Q tm H := by
 have S := segOk_spec hs
 have hop : all[p]? = some op := by
  rw [← Array.getElem?_toList]
  have := congrArg (·[0]?) hop0
  simpa using this
 have get : ∀ (i : Nat) x, k ≤ i → i < m → all[i]? = some x → ((all.toList.drop k).take (m - k))[i - k]? = some x := fun i x h1 h2 h3 => by
  rw [List.getElem?_take_of_lt (by omega), List.getElem?_drop, show k + (i - k) = i by omega]; simpa using h3
 refine ADr.seg hs hop (setVals_len _ _) (fun t ht => setVals_ne vals tm fun x hx e => ?_) hp (fun i x h1 h2 h3 h4 => quietL_spec _ k hq (i - k) x (get i x h1 h2 h4) (by omega)) (fun r H' hr i x h1 h2 h3 h4 => quietL_spec _ k (hq' r H' hr) (i - k) x (get i x h1 h2 h4) (by omega)) hK
 have h6 := List.all_eq_true.1 hvs x.1 (List.mem_map.2 ⟨x, hx, rfl⟩)
 obtain ⟨i, _, h7⟩ := List.any_eq_true.1 h6
 simp only [Bool.and_eq_true, decide_eq_true_eq, beq_iff_eq] at h7
 exact ht i h7.1.1.1 h7.1.1.2 h7.1.2 (by rw [h7.2, e])
theorem ACallE.trim {f : FuncId} {args : List AVal} {R : List Blk → AVal → Prop} (m : Nat) (hc : ACallE P f H args R) (hm : H.length ≤ m) (hR : ∀ H2 r, R H2 r → blksIn m (H2.take m) ∧ valIn m r) :
  ACallE P f H args (fun H' r => ∃ H2, R H2 r ∧ H' = H2.take m) := by
 refine ⟨hc.enters, fun ι σ w vs h1 h2 h3 => (hc.runs ι σ w vs h1 h2 h3).mono ?_⟩
 rintro e w' ⟨v, ι', σ', H2, r, q, rfl, q1, q2, q3, q4⟩
 obtain ⟨hb, hv⟩ := hR _ _ q
 have hW := Weak.head2 (h := H.length) (m := m) hm [true] (tm := [r]) (H := H2) rfl rfl ⟨(by intro x hx; simp [mask] at hx; subst hx; exact hv), hb⟩
 obtain ⟨ι2, s1, s2, s3⟩ := hW ι' σ' { tmps := #[v], defers := [] } w' ⟨⟨rfl, fun t x u p1 p2 => by
  cases t with
  | zero => simp at p1 p2; subst p1; subst p2; exact q1
  | succ t => simp at p1⟩, q2⟩
 refine ⟨v, ι2, σ', H2.take m, r, ⟨H2, q, rfl⟩, rfl, s1.tmps.2 0 r v rfl rfl, s1.heap, ⟨q3.stab, fun id b hi => ?_, fun id tip k hi => ?_⟩, q4⟩
 ·have hl : id < H.length := by rw [← h1.1]; exact (List.getElem?_eq_some_iff.1 hi).1
  have := congrArg (·[id]?) s2
  simp only [List.getElem?_take_of_lt hl] at this
  rw [this]; exact q3.iota id b hi
 ·have hl : id < H.length := (List.getElem?_eq_some_iff.1 hi).1
  obtain ⟨t, k', p1, p2⟩ := q3.chain id tip k hi
  exact ⟨t, k', by rw [List.getElem?_take_of_lt (by omega)]; exact p1, p2⟩
theorem ACallE.nil0 {f : FuncId} {args : List AVal} {R : List Blk → AVal → Prop} (j : Nat) (hc : ACallE P f H (.c (.vec j 0 0) :: args) R) (hj : j < H.length) : ACallE P f H (.c .nils :: args) R := by
 refine ⟨hc.enters, fun ι σ w vs h1 h2 h3 => hc.runs ι σ w vs h1 h2 fun i x u q1 q2 => ?_⟩
 cases i with
 | zero =>
  simp at q1; subst q1
  have h4 := h3 0 (.c .nils) u rfl q2
  exact ⟨_, List.getElem?_eq_getElem (by rw [h1.1]; exact hj), .inr ⟨rfl, rfl, h4⟩⟩
 | succ i => exact h3 (i + 1) x u (by simpa using q1) q2
theorem drop_at {k : Nat} {rest : List Oper} (he : all.toList.drop k = o :: rest) : all[k]? = some o := by
 rw [← Array.getElem?_toList]
 have := congrArg (·[0]?) he
 simpa using this
theorem ADr.one' {rd : Option Nat} {k : Nat} {rest : List Oper} (hc : cutAt all k = true) (he : all.toList.drop k = o :: rest) {R : AVal → List Blk → Prop} (hs : OpN P rd all tm H o R) (hK : ∀ r H', R r H' → ADr P rd h all (k + 1) Q (aput tm o.dst r) H') :
  ADr P rd h all k Q tm H := ADr.one hc (drop_at he) hs hK
theorem quiet_nil {tmA : List AVal} {p i : Nat} : quietL P all tmA H p i [] := trivial
theorem quiet_loud {tmA : List AVal} {p i : Nat} {os : List Oper} (hi : i = p) (hr : quietL P all tmA H p (i + 1) os) : quietL P all tmA H p i (o :: os) := ⟨.inl hi, hr⟩
theorem quiet_one {tmA : List AVal} {p i : Nat} {os : List Oper} {d : Tmp} (hg : gwant all tmA o = some true) (hd : o.dst = some d) (ha : aop P (aeval tmA) H o.op (fun rv H1 => rv = tmA.getD d (.c .any) ∧ H1 = H)) (hr : quietL P all tmA H p (i + 1) os) : quietL P all tmA H p i (o :: os) := by
 refine ⟨.inr (.inl ⟨hg, ?_⟩), hr⟩
 have e : (fun (rv : AVal) (H1 : List Blk) => (∀ d, o.dst = some d → rv = tmA.getD d (.c .any)) ∧ H1 = H) = (fun rv H1 => rv = tmA.getD d (.c .any) ∧ H1 = H) := by
  funext rv H1
  rw [hd]
  simp
 rw [e]; exact ha
theorem quiet_skip {tmA : List AVal} {p i : Nat} {os : List Oper} {d : Tmp} (hg : gwant all tmA o = some false) (hd : o.dst = some d) (ha : tmA.getD d (.c .any) = .tup []) (hr : quietL P all tmA H p (i + 1) os) : quietL P all tmA H p i (o :: os) :=
 ⟨.inr (.inr ⟨hg, fun d' hd' => by rw [hd] at hd'; cases hd'; exact ha⟩), hr⟩
theorem zQ {F P : Prop} (f : F) (h : F → P := by
  intro f
  (repeat' first | exact quiet_nil | refine quiet_loud rfl ?_ | refine quiet_one rfl rfl ?_ ?_ | refine quiet_skip rfl rfl rfl ?_)
  all_goals (simp only [go_sem, List.getD_cons_succ, List.getD_cons_zero, List.getElem?_cons_succ, List.getElem?_cons_zero, Option.getD_some, and_self, f])) : P := h f
theorem AWp.seqMid {rd : Option Nat} {x y : Code} {st : St} (tm1 : List AVal) (H1 : List Blk) (hx : AWp P rd h x (AThen (fun s' => Weak h s' ⟨tm1, H1⟩) Q) st) (hy : AWp P rd h y Q ⟨tm1, H1⟩) : AWp P rd h (.seq x y) Q st := by
 refine AWp.seq (hx.mono fun e s hq => ?_)
 cases e with
 | normal => exact AWp.weak hq hy
 | _ => exact hq
theorem zQs {P : Prop} (h : P := by
  (repeat' first | exact quiet_nil | refine quiet_loud rfl ?_ | refine quiet_skip (by kernel_rfl) rfl (by kernel_rfl) ?_)) : P := h
end
attribute [go_sem] setVals
end Go.Sp
namespace Go.Sp
open Go.RowKit
structure ACallN (P : Program) (f : FuncId) (args : List TVal) (k : Nat) (rows : List (List Tree)) : Prop where
 enters : ∀ args w, (callFunc f args).run P w = .ok (.enter f args) w
 runs : ∀ (S : Nat → Nat → Prop) (w : World) (vs : List Value), vs.length = args.length → (∀ (j : Nat) x u, args[j]? = some x → vs[j]? = some u → TVRel S w x u) →
  Calls P f vs.toArray w fun e w' => ∃ b cap, e = .returned (.slice (some ⟨b, 0, none⟩) rows.length cap) ∧ rows.length ≤ cap ∧ w.heap.size ≤ b ∧ (∃ arr e fz, w'.heap[b]? = some (.cells arr e fz)) ∧
   (∀ (j : Nat) c, (flatRows rows)[j]? = some c → w'.frozen? ⟨b, j, none⟩ = false ∧ ∃ v, w'.cell? ⟨b, j, none⟩ = some v ∧ ∀ ι σ H, CRel ι σ w' H c v) ∧ Below w.heap.size w w' ∧ w.drawn ≤ w'.drawn
end Go.Sp
namespace Go.Sp
open Go.RowKit Go.Sort
open Go.Proofs (ltOf)
section
variable {α : Type} [Inhabited α] (cell : α → Tree)
def cellRows (l : List α) : List (List Tree) := l.map fun x => [cell x]
theorem flatVals_cells (l : List α) : flatVals (cellRows cell l) = (l.map fun x => valOf (cell x)).toArray := by
 unfold flatVals cellRows
 congr 1
 induction l with
 | nil => rfl
 | cons x xs ih => simp only [List.map_cons, List.flatten_cons, List.map_append, List.map_nil, ih, List.singleton_append]
theorem putRow_cells (w : World) (b : Nat) (l : List α) : putRow (fun x => valOf (cell x)) w b 0 l.toArray = putRow id w b 0 (flatVals (cellRows cell l)) := by
 rw [flatVals_cells]
 unfold putRow
 congr 1
 funext c
 unfold putCells
 congr 1
 funext k x
 by_cases h : 0 ≤ k ∧ k < 0 + l.toArray.size
 ·have hk : k - 0 < l.length := by simpa using h.2
  rw [if_pos h, if_pos (by simpa using h)]
  rw [getElem!_pos l.toArray (k - 0) (by simpa using hk), getElem!_pos _ (k - 0) (by simpa using hk)]
  simp
 ·rw [if_neg h, if_neg (by simpa using h)]
theorem holds_cells {w : World} {b : Nat} {l : List α} (h : Holds id w b 0 (flatVals (cellRows cell l))) : Holds (fun x => valOf (cell x)) w b 0 l.toArray := by
 rw [flatVals_cells] at h
 intro j hj
 have hj' : j < l.length := by simpa using hj
 have := h j (by simpa using hj')
 rw [getElem!_pos _ j (by simpa using hj')] at this
 rw [getElem!_pos l.toArray j hj]
 simpa using this
theorem cellRow_len {l : List α} {r : List Tree} (h : r ∈ cellRows cell l) : r.length = 1 := by
 obtain ⟨x, _, rfl⟩ := List.mem_map.1 h; rfl
theorem cellRow_flat (hfl : ∀ x, (cell x).flat = true) {l : List α} {r : List Tree} (h : r ∈ cellRows cell l) : flatRow r = true := by
 obtain ⟨x, _, rfl⟩ := List.mem_map.1 h
 simp [flatRow, hfl]
theorem SortFunc1_call {P : Program} {ρ : Go.Shelf.Ren} (L : Go.Proofs.SlLaysF.n6 P ρ) (hfl : ∀ x, (cell x).flat = true) (cf : α → α → Int) (hO : SWO (ltOf cf)) (g : Nat) (caps : List Tree)
  (hcmp : ∀ x y, ACall P g (.t (cell x) :: .t (cell y) :: caps.map .t) (.t (.int .i64 (cf x y)))) (hent : ∀ args w, (callFunc (ρ.f 6) args).run P w = .ok (.enter (ρ.f 6) args) w) (xs : List α) (hlen : xs.length < 4611686018427387904)
  {H : List Blk} {id' cap : Nat} (hid : H[id']? = some (.box (flatRows (cellRows cell xs)))) :
  ACallH P (ρ.f 6) H [.c (.ref id' 1 0 xs.length cap), .c (.fn g (caps.map .tree))] (H.set id' (.box (flatRows (cellRows cell (sortL cf xs))))) (.tup []) := by
 refine ⟨hent, fun ι σ w vs hH hl hv => ?_⟩
 match vs, hl with
 | [v0, v1], _ =>
 have h0 : CRel ι σ w H (.ref id' 1 0 xs.length cap) v0 := hv 0 _ v0 rfl rfl
 have h1 : CRel ι σ w H (.fn g (caps.map .tree)) v1 := hv 1 _ v1 rfl rfl
 obtain ⟨b, hi, cap', _, rfl⟩ := h0
 obtain ⟨ws, rfl, hwl, hwv⟩ := h1
 have hf1 : ∀ r, r ∈ cellRows cell xs → flatRow r = true := fun r hr => cellRow_flat cell hfl hr
 have hh := box_holds hH hid hi hf1
 have hperm := (sortL_spec hO xs).1
 obtain ⟨⟨arr, e, fz, ha⟩, _⟩ := hH.2 id' _ b hid hi
 have hc : Go.Proofs.CmpLays1 P g ws.toArray (fun x => valOf (cell x)) cf b 0 xs.toArray.size w := by
  intro m os dk hdk x y
  obtain ⟨σ', r1, r2, r3⟩ := sorted_rel hH hid hi hf1 (rows' := cellRows cell dk.toList) (fun r hr => cellRow_flat cell hfl hr) (by
   rw [flatten_len (k := 1) (fun r hr => cellRow_len cell hr), flatten_len (k := 1) (fun r hr => cellRow_len cell hr)]
   simp only [cellRows, List.length_map]
   have : dk.size = xs.length := by simpa using hdk
   rw [Array.length_toList, this]) m os
  have hW : Go.Proofs.sortWorld (fun x => valOf (cell x)) w b 0 m dk os = Sort.grow (putRow id (Sort.ahead w m) b 0 (flatVals (cellRows cell dk.toList))) os := by
   unfold Go.Proofs.sortWorld
   rw [← putRow_cells cell]
  rw [hW]
  generalize Sort.grow (putRow id (Sort.ahead w m) b 0 (flatVals (cellRows cell dk.toList))) os = W at *
  have := (hcmp x y).runs (Stab σ') W (valOf (cell x) :: valOf (cell y) :: ws) (by simp; simpa using hwl) (fun j z u q1 q2 => by
   match j with
   | 0 => simp at q1 q2; subst q1; subst q2; exact valOf_rel (hfl x)
   | 1 => simp at q1 q2; subst q1; subst q2; exact valOf_rel (hfl y)
   | j + 2 =>
    simp only [List.getElem?_cons_succ, List.getElem?_map] at q1 q2
    cases hcj : caps[j]? with
    | none => rw [hcj] at q1; simp at q1
    | some t =>
     rw [hcj] at q1
     simp at q1
     subst q1
     have hk : KRel ι σ w (.tree t) u := hwv j _ u (by rw [List.getElem?_map, hcj]; rfl) q2
     exact r2.t hk)
  refine Calls.mono (R := fun e w' => ∃ v, e = .returned v ∧ _) (by simpa using this) ?_
  rintro e w' ⟨v, rfl, hr, hb, hd⟩
  cases hr
  obtain ⟨q, os', hw⟩ := grow_of_below hb hd
  exact ⟨rfl, q, os', hw⟩
 have run := Go.Proofs.Any.slices_SortFunc_eq L (fun x => valOf (cell x)) (fun x => valOf_one _) cf hO g ws.toArray b 0 cap' xs.toArray w (hcmp default default).enters hc (holds_cells cell hh) (Array.getElem?_eq_some_iff.1 ha).1 (by simpa using hlen)
 refine Calls.mono (by simpa using run) ?_
 rintro e w' ⟨rfl, n, os, hw⟩
 have hw2 : w' = Sort.grow (putRow id (Sort.ahead w n) b 0 (flatVals (cellRows cell (sortL cf xs)))) os := by
  rw [hw]
  unfold Go.Proofs.sortWorld
  rw [← putRow_cells cell]
  rfl
 rw [hw2]
 obtain ⟨σ', r1, r2, r3⟩ := sorted_rel hH hid hi hf1 (rows' := cellRows cell (sortL cf xs)) (fun r hr => cellRow_flat cell hfl hr) (by
  rw [flatten_len (k := 1) (fun r hr => cellRow_len cell hr), flatten_len (k := 1) (fun r hr => cellRow_len cell hr)]
  simp only [cellRows, List.length_map, hperm.length_eq]) n os
 exact ⟨_, ι, σ', rfl, ⟨#[], rfl, rfl, by simp⟩, r1, r2, r3⟩
end
end Go.Sp
namespace Go.Sp
open Go.RowKit
structure ACallB (P : Program) (f : FuncId) (args : List TVal) (rows : List (List Tree)) : Prop where
 enters : ∀ args w, (callFunc f args).run P w = .ok (.enter f args) w
 runs : ∀ (S : Nat → Nat → Prop) (w : World) (vs : List Value), vs.length = args.length → (∀ (j : Nat) x u, args[j]? = some x → vs[j]? = some u → TVRel S w x u) →
  Calls P f vs.toArray w fun e w' => ∃ b cap, e = .returned (.slice (some ⟨b, 0, none⟩) rows.length cap) ∧ rows.length ≤ cap ∧ (flatRows rows ≠ [] → w.heap.size ≤ b) ∧ (∃ arr e fz, w'.heap[b]? = some (.cells arr e fz)) ∧
   (∀ (j : Nat) c, (flatRows rows)[j]? = some c → w'.frozen? ⟨b, j, none⟩ = false ∧ ∃ v, w'.cell? ⟨b, j, none⟩ = some v ∧ ∀ ι σ H, CRel ι σ w' H c v) ∧ Below w.heap.size w w' ∧ w.drawn ≤ w'.drawn
end Go.Sp
namespace Go.Sp
open Go.RowKit
end Go.Sp
namespace Go.Sp
open Go.RowKit
structure Pos (pos : Nat → Nat) (n : Nat) : Prop where
 two : ∀ i, pos (pos i) = i
 lt : ∀ i, i < n → pos i < n
variable {pos : Nat → Nat} {a b : Nat} {ops : Array Oper}
variable {wd : Bool} {P : Program} {rd : Option Nat}
end Go.Sp
namespace Go.Sp
open Go.ChangeShapes Go.WideShapes Go.ChangeAt Go.RowKit Go.Joins Go.Deep Go.WideElems
set_option linter.unusedVariables false
theorem open_rows2 {H : Type} {enc : TypeId × Value → H} {P : Program} {w : World} {base : Nat} {spare : Nat → Bool} {held : Bool} {fuel : Nat} {t e e2 : TypeId} {v : Value} {x : DataW H × List MemPlace}
  (ht : P.underlying t = some (.slice e)) (he : P.underlying e = some (.slice e2)) (hce : P.cellsOf e = 1) (h2 : IntCells P e2 1) (h : DataW.trod enc P w base spare held fuel t [v] = some x) :
  ∃ ls : List (List Int), ls.length ≤ maxLen ∧ TRel (fun _ _ => True) w (.slice (ls.map fun l => [Tree.slice (l.map fun y => [Tree.int .i64 y])])) v := by
 rcases open_slice ht h with ⟨hv, -⟩ | ⟨a, len, cap, m, k, D, Pl, hv, hb, hlc, hcm, hm, -, hx⟩
 ·obtain rfl : v = .slice none 0 0 := by simpa using hv
  exact ⟨[], Nat.zero_le _, .nil none 0⟩
 ·obtain rfl : v = .slice (some a) len cap := by simpa using hv
  have hlm : len ≤ m := by rw [hm]; split <;> omega
  have hrow : ∀ i, i < len → ∃ (l : List Int) (u : Value), w.cell? (a.add i) = some u ∧ TRel (fun _ _ => True) w (.slice (l.map fun y => [Tree.int .i64 y])) u := by
   intro i hi
   obtain ⟨cs, c1, c2⟩ := hx i (by omega)
   rw [hce, Nat.mul_one] at c1
   obtain ⟨-, cl, cg⟩ := World.cells?_some c1
   obtain ⟨u, rfl⟩ : ∃ u, cs = [u] := by
    match cs, cl with
    | [u], _ => exact ⟨u, rfl⟩
   obtain ⟨rows, hr, -, hT⟩ := open_rows he h2 (by decide) c2
   refine ⟨rows.map fun r => r.getD 0 0, u, ?_, ?_⟩
   ·have := cg 0 (by decide)
    rw [Addr.add_add] at this
    simpa using this
   ·have e3 : rows.map tInts = (rows.map fun r => r.getD 0 0).map fun y => [Tree.int .i64 y] := by
     rw [List.map_map]
     refine List.map_congr_left fun r hr' => ?_
     match r, (hr r hr').1 with
     | [y], _ => rfl
    rw [← e3]; exact hT
  by_cases h0 : len = 0
  ·subst h0
   exact ⟨[], Nat.zero_le _, .nil _ _⟩
  have hspot : a.spot = none := by
   obtain ⟨l, u, hc, _⟩ := hrow 0 (by omega)
   have hs := World.cell?_spot hc
   simpa [Addr.add] using hs
  obtain ⟨b, off, spot⟩ := a
  simp only at hspot
  subst hspot
  let R : Nat → List Int := fun i => if h : i < len then (hrow i h).choose else []
  let U : Nat → Value := fun i => if h : i < len then (hrow i h).choose_spec.choose else undef
  have hR : ∀ i, i < len → w.cell? ⟨b, off + i, none⟩ = some (U i) ∧ TRel (fun _ _ => True) w (.slice ((R i).map fun y => [Tree.int .i64 y])) (U i) := by
   intro i hi
   simp only [R, U, dif_pos hi]
   have h3 := (hrow i hi).choose_spec.choose_spec
   exact ⟨by rw [← addr_add]; exact h3.1, h3.2⟩
  refine ⟨(List.range len).map R, by simp; omega, ?_⟩
  have e : len = (((List.range len).map R).map fun l => [Tree.slice (l.map fun y => [Tree.int .i64 y])]).length := by simp
  have hget : ∀ i r, (((List.range len).map R).map fun l => [Tree.slice (l.map fun y => [Tree.int .i64 y])])[i]? = some r → i < len ∧ r = [Tree.slice ((R i).map fun y => [Tree.int .i64 y])] := by
   intro i r hr
   obtain ⟨hi, rfl⟩ := List.getElem?_eq_some_iff.1 hr
   simp at hi
   simp [hi]
  have := TRel.slice (S := fun _ _ => True) (w := w) b off 1 cap (((List.range len).map R).map fun l => [Tree.slice (l.map fun y => [Tree.int .i64 y])]) (fun i _ => U i) (by rw [← e]; exact hlc)
   (by
    intro r hr
    obtain ⟨i, _, rfl⟩ := List.mem_map.1 hr
    rfl)
   (by
    intro i r j t hr hj
    obtain ⟨hi, rfl⟩ := hget i r hr
    cases j with
    | zero => rw [Nat.mul_one, Nat.add_zero]; exact ⟨trivial, (hR i hi).1⟩
    | succ j => simp at hj)
   (by
    intro i r j t hr hj
    obtain ⟨hi, rfl⟩ := hget i r hr
    cases j with
    | zero => simp at hj; subst hj; exact (hR i hi).2
    | succ j => simp at hj)
  rw [← e] at this
  exact this
end Go.Sp
