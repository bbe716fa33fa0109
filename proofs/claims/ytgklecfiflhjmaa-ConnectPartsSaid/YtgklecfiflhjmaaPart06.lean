/- A part of the proof. -/
import Derived.Test.YtgklecfiflhjmaaPart05
import Derived.Test.YtgklecfiflhjmaaLayerC
set_option linter.all false
set_option maxHeartbeats 4000000
set_option maxRecDepth 100000
namespace Go.Proofs.Ytgklecfiflhjmaa
open Go.Sp
def itemsP (l : List (Int × Int)) : List (List TVal) := l.zipIdx.map fun p => [tint (p.2 : Int), tpair p.1.1 p.1.2]
theorem itemsP_len (l : List (Int × Int)) : (itemsP l).length = l.length := by simp [itemsP]
theorem itemsP_get {l : List (Int × Int)} {i : Nat} {p : Int × Int} (h : l[i]? = some p) : (itemsP l)[i]? = some [tint (i : Int), tpair p.1 p.2] := by
 simp [itemsP, h]
theorem itemsP_inv {l : List (Int × Int)} {i : Nat} {ts : List TVal} (h : (itemsP l)[i]? = some ts) : ∃ p, l[i]? = some p ∧ ts = [tint (i : Int), tpair p.1 p.2] := by
 simp only [itemsP, List.getElem?_map, List.getElem?_zipIdx] at h
 cases hl : l[i]? with
 | none => simp [hl] at h
 | some p => simp [hl] at h; exact ⟨p, rfl, h.symm⟩
theorem endsL_get {es : List E} {i k : Nat} (h : i < es.length) (hk : k < (es[i]'h).m.toNat) : (endsL es)[(endsL (es.take i)).length + k]? = some (es[i].a, es[i].b) := by
 have e : endsL es = endsL (es.take i) ++ (List.replicate es[i].m.toNat (es[i].a, es[i].b) ++ endsL (es.drop (i + 1))) := by
  rw [← List.append_assoc, ← endsL_take h, ← endsL_append, List.take_append_drop]
 rw [e, List.getElem?_append_right (by omega), Nat.add_sub_cancel_left, List.getElem?_append_left (by rw [List.length_replicate]; exact hk)]
 rw [List.getElem?_replicate, if_pos hk]
theorem singles1_ok (g : G) (hs : (endsL g.es).length < 2 ^ 40) (hl : g.es.length < 2 ^ 40) (hm : ∀ e, e ∈ g.es → e.m < 2 ^ 40) : AIter Try.prog 94 [.rptr [.int .i64 g.n, .slice (eRows g.es)]] (itemsP (endsL g.es)) := by
 refine AIter.of_body Try.func94 rfl (by kernel_rfl) rfl (fun l J Jx hJ hJx hY => ?_)
 simp only [entry, Try.ntmps94, ofT, ofT1, ofTree, List.map_cons, List.map_nil, List.length_cons, List.length_nil, Nat.reduceAdd, Nat.reduceSub, List.replicate_succ, List.replicate_zero, List.cons_append, List.nil_append]
 refine zR (zc @eRows_len trivial) trivial trivial ?_
 refine AWp.loopS (α:=Nat) 30 (fun i=>[(0,.c (.yld l)),(1,.c (.rptr [.int .i64 g.n, .slice (eRows g.es)])),(3,.c (.int .i64 ((endsL (g.es.take i)).length : Int))),(7,.c (.slice (eRows g.es) .none)),(8,.c (.int .i64 (g.es.length : Int))),(9,.c (.int .i64 (i : Int)))]) (fun i=>[.ghost (J (endsL (g.es.take i)).length)]) (fun i=>i ≤ g.es.length) (fun i=>g.es.length - i) (0) (hk:=Weak.headL 1 30 [0, 1, 3, 7, 8, 9] zW) (h0:=?_) (round:=fun i hI=>?_)
 ·exact Nat.zero_le _
 ·by_cases hlt : i < g.es.length
  ·have e1 : g.es[i]? = some g.es[i] := List.getElem?_eq_getElem hlt
   have e2 := eRows_get e1
   have hle := endsL_take_le g.es (i + 1)
   rw [endsL_take hlt, List.length_append, List.length_replicate] at hle
   have hmi := hm g.es[i] (List.getElem_mem hlt)
   repeat' (first|((first|(refine zT ?_;intro K' hK')|(refine zG ?_ ?_<;>(try refine zH ?_)<;>intro hguard<;>(try exact zX)<;>try intro K' hK'))<;>((try simp +contextual only [go_sem, eRows_len, Int.ofNat_lt, e2, Int.toNat_natCast]);(repeat' first|(with_reducible refine hK' _ _ ?_;clear hK' K')|exact zY|with_reducible refine And.intro ?_ ?_|(with_reducible intro hpath;try exact zP)|(refine hK' _ _ ?_;clear hK' K')|fail);try refine zS ?_))|(refine zE ?_;refine hK _ _ ?_;clear hK K)|(refine zN ?_;try refine zS ?_)|refine zA ?_|(refine zB ?_;intro K hK)|(refine zC ?_ ?_<;>(try refine zH ?_)<;>intro hcond<;>try exact zX)|fail)
   ·
    refine AWp.loopS (α:=Nat) 30 (fun k=>[(0,.c (.yld l)),(1,.c (.rptr [.int .i64 g.n, .slice (eRows g.es)])),(3,.c (.int .i64 (((endsL (g.es.take i)).length + k : Nat) : Int))),(5,.c (.ptr 1 0)),(7,.c (.slice (eRows g.es) .none)),(8,.c (.int .i64 (g.es.length : Int))),(9,.c (.int .i64 (i : Int))),(14,.c (.int .i64 g.es[i].m)),(15,.c (.int .i64 (k : Int)))]) (fun k=>[.ghost (J ((endsL (g.es.take i)).length + k)), .box [.int .i64 g.es[i].a, .int .i64 g.es[i].b, .int .i64 g.es[i].m]]) (fun k=>k ≤ g.es[i].m.toNat) (fun k=>g.es[i].m.toNat - k) (0) (hk:=Weak.headL 2 30 [0, 1, 3, 5, 7, 8, 9, 14, 15] zW) (h0:=?_) (round:=fun k hI=>?_)
    ·exact Nat.zero_le _
    ·by_cases hk : (k : Int) < g.es[i].m
     ·
      have hk2 : k < g.es[i].m.toNat := by omega
      have hget := itemsP_get (endsL_get hlt hk2)
      repeat' (first|((with_reducible refine AWp.seq (AWp.of_reg (id:=6) (AReg.pre 7 (fun K hK=>?_))));simp only [List.take_succ_cons,List.take_zero])|((with_reducible refine AWp.of_reg (id:=6) (AReg.pre 7 (fun K hK=>?_)));simp only [List.take_succ_cons,List.take_zero])|((first|(refine zT ?_;intro K' hK')|(refine zG ?_ ?_<;>(try refine zH ?_)<;>intro hguard<;>(try exact zX)<;>try intro K' hK'))<;>((try simp +contextual only [go_sem]);(repeat' first|(with_reducible refine hK' _ _ ?_;clear hK' K')|exact zY|with_reducible refine And.intro ?_ ?_|(with_reducible intro hpath;try exact zP)|(refine hK' _ _ ?_;clear hK' K')|fail);try refine zS ?_))|(refine zE ?_;refine hK _ _ ?_;clear hK K)|(refine zN ?_;try refine zS ?_)|refine zA ?_|(refine zB ?_;intro K hK)|(refine zC ?_ ?_<;>(try refine zH ?_)<;>intro hcond<;>try exact zX)|fail)
      simp only [List.drop_succ_cons, List.drop_zero]
      refine AReg.yield rfl rfl rfl (by rfl) (by with_unfolding_all rfl) (by simp [okBlk]) (hY _ _ hget) (hJ _) hJx ?_ ?_ <;> (try refine zS ?_) <;> refine AReg.rest (fun K hK => ?_)
      ·
       repeat' (first|((first|(refine zT ?_;intro K' hK')|(refine zG ?_ ?_<;>(try refine zH ?_)<;>intro hguard<;>(try exact zX)<;>try intro K' hK'))<;>((try simp +contextual only [go_sem]);(repeat' first|(with_reducible refine hK' _ _ ?_;clear hK' K')|exact zY|with_reducible refine And.intro ?_ ?_|(with_reducible intro hpath;try exact zP)|(refine hK' _ _ ?_;clear hK' K')|fail);try refine zS ?_))|(refine zE ?_;refine hK _ _ ?_;clear hK K)|(refine zN ?_;try refine zS ?_)|refine zA ?_|(refine zB ?_;intro K hK)|(refine zC ?_ ?_<;>(try refine zH ?_)<;>intro hcond<;>try exact zX)|fail)
       refine ⟨k + 1,Weak.headF 2 30 [0, 1, 3, 5, 7, 8, 9, 14, 15] (zc @Nat.add_assoc trivial) zW,?_,?_⟩
       ·exact hk2
       ·omega
      ·
       repeat' (first|((first|(refine zT ?_;intro K' hK')|(refine zG ?_ ?_<;>(try refine zH ?_)<;>intro hguard<;>(try exact zX)<;>try intro K' hK'))<;>((try simp +contextual only [go_sem]);(repeat' first|(with_reducible refine hK' _ _ ?_;clear hK' K')|exact zY|with_reducible refine And.intro ?_ ?_|(with_reducible intro hpath;try exact zP)|(refine hK' _ _ ?_;clear hK' K')|fail);try refine zS ?_))|(refine zE ?_;refine hK _ _ ?_;clear hK K)|(refine zN ?_;try refine zS ?_)|refine zA ?_|(refine zB ?_;intro K hK)|(refine zC ?_ ?_<;>(try refine zH ?_)<;>intro hcond<;>try exact zX)|fail)
       exact ⟨True.intro, _, .inr rfl⟩
     ·
      have ek : k = g.es[i].m.toNat := by omega
      refine zR (zc @e2 trivial) trivial trivial ?_
      refine ⟨i + 1,Weak.headN 1 30 [0, 1, 3, 7, 8, 9] zW (e1:=by first|rfl|(simp [mask,keepL, endsL_take hlt, ek];done)|(simp [mask,keepL, endsL_take hlt, ek]<;>simp_all<;>omega)) (e2:=by first|rfl|(simp [mask,keepL, endsL_take hlt, ek];done)|(simp [mask,keepL, endsL_take hlt, ek]<;>simp_all<;>omega)),?_,?_⟩
      ·exact hlt
      ·omega
  ·have ei : i = g.es.length := by omega
   refine zR (zc @eRows_len (zc @Int.ofNat_lt trivial)) trivial trivial ?_
   exact ⟨True.intro, _, .inl (by rw [itemsP_len, ei, List.take_length])⟩
theorem singles_ok (g : G) : ACall Try.prog 86 [tG g] (.t (.fn 94 [.rptr [.int .i64 g.n, .slice (eRows g.es)]])) := by
 refine ACall.of_body Try.func86 rfl (by kernel_rfl) ?_
 simp only [entry, Try.ntmps86, tG]
 refine zU ?_
 refine zR trivial trivial trivial ?_
 simp [Rets, aret, Blk.cells, ty, Try.results86, ares, toT1, toT, borrow, borrow0, capCell, toTree0]
def xsb (f : Nat → Bool) : Nat → Bool
 | 0 => false
 | k + 1 => xor (xsb f k) (f k)
theorem xsb_congr {f g : Nat → Bool} : ∀ {k : Nat}, (∀ e, e < k → f e = g e) → xsb f k = xsb g k
 | 0, _ => rfl
 | k + 1, h => by unfold xsb; rw [xsb_congr fun e he => h e (by omega), h k (by omega)]
theorem xsb_xor (f g : Nat → Bool) : ∀ k : Nat, xsb (fun e => xor (f e) (g e)) k = xor (xsb f k) (xsb g k)
 | 0 => rfl
 | k + 1 => by
  unfold xsb; rw [xsb_xor f g k]
  cases xsb f k <;> cases xsb g k <;> cases f k <;> cases g k <;> rfl
theorem xsb_false : ∀ k : Nat, xsb (fun _ => false) k = false
 | 0 => rfl
 | k + 1 => by unfold xsb; rw [xsb_false k]; rfl
theorem xsb_one {f : Nat → Bool} {i : Nat} (h : ∀ e, e ≠ i → f e = false) : ∀ {k : Nat}, i < k → xsb f k = f i
 | 0, hi => by omega
 | k + 1, hi => by
  unfold xsb
  by_cases e : i = k
  ·subst e
   rw [xsb_congr (g := fun _ => false) fun j hj => h j (by omega), xsb_false]
   cases f i <;> rfl
  ·rw [xsb_one h (by omega), h k (fun x => e x.symm)]
   cases f i <;> rfl
theorem xsb_two {f : Nat → Bool} {i j k : Nat} (h : ∀ e, e < k → f e = true → e = i ∨ e = j) (hf : xsb f k = false) (hi : i < k) (ht : f i = true) (hj : f j = false) : False := by
 have h2 : xsb f k = f i := by
  have hc : xsb f k = xsb (fun e => if e = i then f i else false) k := xsb_congr fun e he => by
   by_cases e1 : e = i
   ·subst e1; rw [if_pos rfl]
   ·rw [if_neg e1]
    cases hx : f e with
    | false => rfl
    | true => rcases h e he hx with rfl | rfl
              ·exact absurd rfl e1
              ·rw [hj] at hx; cases hx
  rw [hc, xsb_one (i := i) (fun e he => by simp [he]) hi]; simp
 rw [hf, ht] at h2; cases h2
abbrev edL (L : List (Nat × Nat)) (e : Nat) : Nat × Nat := L.getD e (0, 0)
def crs (L : List (Nat × Nat)) (S : Nat → Bool) (e : Nat) : Bool := xor (S (edL L e).1) (S (edL L e).2)
def cross (L : List (Nat × Nat)) (A S : Nat → Bool) : Bool := xsb (fun e => A e && crs L S e) L.length
def EvenA (L : List (Nat × Nat)) (A : Nat → Bool) : Prop := ∀ S, cross L A S = false
def SupA (L : List (Nat × Nat)) (A : Nat → Bool) : Prop := ∀ e, A e = true → e < L.length
def xorA (A B : Nat → Bool) : Nat → Bool := fun e => xor (A e) (B e)
theorem cross_xor (L : List (Nat × Nat)) (A B S : Nat → Bool) : cross L (xorA A B) S = xor (cross L A S) (cross L B S) := by
 unfold cross
 rw [← xsb_xor]
 exact xsb_congr fun e _ => by unfold xorA; cases A e <;> cases B e <;> cases crs L S e <;> rfl
theorem EvenA.xor {L : List (Nat × Nat)} {A B : Nat → Bool} (h1 : EvenA L A) (h2 : EvenA L B) : EvenA L (xorA A B) := fun S => by rw [cross_xor, h1 S, h2 S]; rfl
theorem SupA.xor {L : List (Nat × Nat)} {A B : Nat → Bool} (h1 : SupA L A) (h2 : SupA L B) : SupA L (xorA A B) := fun e h => by
 unfold xorA at h
 cases ha : A e with
 | true => exact h1 e ha
 | false => rw [ha] at h; exact h2 e (by simpa using h)
def oneA (i : Nat) : Nat → Bool := fun e => decide (e = i)
theorem cross_one (L : List (Nat × Nat)) {i : Nat} (hi : i < L.length) (S : Nat → Bool) : cross L (oneA i) S = crs L S i := by
 unfold cross
 rw [xsb_one (i := i) (fun e he => by simp [oneA, he]) hi]; simp [oneA]
theorem SupA.one {L : List (Nat × Nat)} {i : Nat} (hi : i < L.length) : SupA L (oneA i) := fun e h => by
 simp [oneA] at h; omega
def cdA (A : Nat → Bool) : Nat → Nat
 | 0 => 0
 | k + 1 => cdA A k + if A k = true then 1 else 0
theorem cdA_le {A B : Nat → Bool} (h : ∀ e, A e = true → B e = true) : ∀ k, cdA A k ≤ cdA B k
 | 0 => Nat.le_refl _
 | k + 1 => by
  unfold cdA
  have := cdA_le h k
  have h2 := h k
  split <;> split <;> first | omega | (rename_i a b; exact absurd (h2 a) b)
theorem cdA_lt {A B : Nat → Bool} (h : ∀ e, A e = true → B e = true) {y : Nat} (hb : B y = true) (ha : ¬ A y = true) : ∀ {k}, y < k → cdA A k < cdA B k
 | 0, hk => by omega
 | k + 1, hk => by
  unfold cdA
  by_cases e : y = k
  ·subst e
   rw [if_neg ha, if_pos hb]
   have := cdA_le h y; omega
  ·have := cdA_lt h hb ha (k := k) (by omega)
   have h2 := h k
   split <;> split <;> first | omega | (rename_i a b; exact absurd (h2 a) b)
structure Circ (L : List (Nat × Nat)) (C : Nat → Bool) : Prop where
 sup : SupA L C
 ev : EvenA L C
 ne : ∃ e, C e = true
 mn : ∀ D : Nat → Bool, (∀ e, D e = true → C e = true) → EvenA L D → (∃ e, D e = true) → ∀ e, C e = true → D e = true
theorem circ_in_aux {L : List (Nat × Nat)} : ∀ (n : Nat) (A : Nat → Bool), cdA A L.length ≤ n → SupA L A → EvenA L A → ∀ e, A e = true → ∃ C, Circ L C ∧ C e = true ∧ ∀ f, C f = true → A f = true := by
 intro n
 induction n with
 | zero =>
  intro A hn hs _ e he
  have := cdA_lt (A := fun _ => false) (B := A) (fun e h => by cases h) he (by simp) (hs e he)
  omega
 | succ n ih =>
  intro A hn hs hev e he
  by_cases hx : ∃ D : Nat → Bool, (∀ f, D f = true → A f = true) ∧ EvenA L D ∧ (∃ f, D f = true) ∧ ∃ f, A f = true ∧ ¬ D f = true
  ·obtain ⟨D, h1, h2, ⟨f, h3⟩, g, h4, h5⟩ := hx
   by_cases hd : D e = true
   ·have hlt := cdA_lt h1 h4 h5 (hs g h4)
    obtain ⟨C, c1, c2, c3⟩ := ih D (by omega) (fun x hx => hs x (h1 x hx)) h2 e hd
    exact ⟨C, c1, c2, fun x hx => h1 x (c3 x hx)⟩
   ·have hsub : ∀ x, xorA A D x = true → A x = true := fun x hx => by
     unfold xorA at hx
     cases ha : A x with
     | true => rfl
     | false =>
      rw [ha] at hx
      have : D x = true := by simpa using hx
      rw [h1 x this] at ha; cases ha
    have hlt := cdA_lt hsub (y := f) (h1 f h3) (by unfold xorA; rw [h1 f h3, h3]; simp) (hs f (h1 f h3))
    obtain ⟨C, c1, c2, c3⟩ := ih (xorA A D) (by omega) (fun x hx => hs x (hsub x hx)) (hev.xor h2) e (by unfold xorA; rw [he]; simpa using hd)
    exact ⟨C, c1, c2, fun x hx => hsub x (c3 x hx)⟩
  ·refine ⟨A, ⟨hs, hev, ⟨e, he⟩, fun D h1 h2 h3 x hx1 => ?_⟩, he, fun _ h => h⟩
   exact Classical.byContradiction fun h4 => hx ⟨D, h1, h2, h3, x, hx1, h4⟩
theorem circ_in {L : List (Nat × Nat)} {A : Nat → Bool} (hs : SupA L A) (hev : EvenA L A) {e : Nat} (he : A e = true) : ∃ C, Circ L C ∧ C e = true ∧ ∀ f, C f = true → A f = true := circ_in_aux _ A (Nat.le_refl _) hs hev e he
theorem Circ.elim {L : List (Nat × Nat)} {C D : Nat → Bool} (h1 : Circ L C) (h2 : Circ L D) {e f : Nat} (he : C e = true) (he' : ¬ D e = true) (hf : C f = true) (hf' : D f = true) :
  ∃ B, Circ L B ∧ B e = true ∧ ¬ B f = true ∧ ∀ x, B x = true → C x = true ∨ D x = true := by
 obtain ⟨B, b1, b2, b3⟩ := circ_in (h1.sup.xor h2.sup) (h1.ev.xor h2.ev) (e := e) (by unfold xorA; rw [he]; simpa using he')
 refine ⟨B, b1, b2, fun h => ?_, fun x hx => ?_⟩
 ·have := b3 f h
  unfold xorA at this
  rw [hf, hf'] at this; cases this
 ·have := b3 x hx
  unfold xorA at this
  cases hc : C x with
  | true => exact .inl rfl
  | false => rw [hc] at this; exact .inr (by simpa using this)
theorem Circ.mn_of {L : List (Nat × Nat)} {C D : Nat → Bool} (h1 : Circ L C) (h2 : Circ L D) (hs : ∀ x, C x = true → D x = true) : ∀ x, D x = true → C x = true := h2.mn C hs h1.ev h1.ne
def orA (A B : Nat → Bool) : Nat → Bool := fun e => A e || B e
theorem circ_trans_aux {L : List (Nat × Nat)} {e g : Nat} : ∀ (n : Nat) (C D : Nat → Bool), cdA (orA C D) L.length ≤ n → Circ L C → Circ L D → C e = true → D g = true → (∃ f, C f = true ∧ D f = true) → ∃ B, Circ L B ∧ B e = true ∧ B g = true := by
 intro n
 induction n with
 | zero =>
  intro C D hn hc hd he _ _
  have := cdA_lt (A := fun _ => false) (B := orA C D) (y := e) (fun e h => by cases h) (by simp [orA, he]) (by simp) (hc.sup e he)
  omega
 | succ n ih =>
  intro C D hn hc hd he hg ⟨f, hf1, hf2⟩
  by_cases h1 : D e = true
  ·exact ⟨D, hd, h1, hg⟩
  by_cases h2 : C g = true
  ·exact ⟨C, hc, he, h2⟩
  obtain ⟨B, b1, b2, b3, b4⟩ := hc.elim hd he h1 hf1 hf2
  obtain ⟨B', c1, c2, c3, c4⟩ := hd.elim hc hg h2 hf2 hf1
  have m1 : ∃ x, B x = true ∧ D x = true := by
   refine Classical.byContradiction fun hx => b3 (b1.mn_of hc (fun x hx1 => ?_) f hf1)
   rcases b4 x hx1 with h | h
   ·exact h
   ·exact absurd ⟨x, hx1, h⟩ hx
  by_cases h3 : ∃ y, C y = true ∧ ¬ D y = true ∧ ¬ B y = true
  ·obtain ⟨y, y1, y2, y3⟩ := h3
   have hlt := cdA_lt (A := orA B D) (B := orA C D) (y := y) (fun x hx => by
    simp only [orA, Bool.or_eq_true] at hx ⊢
    rcases hx with hx | hx
    ·exact b4 x hx
    ·exact .inr hx) (by simp [orA, y1]) (by simp [orA, y2, y3]) (hc.sup y y1)
   exact ih B D (by omega) b1 hd b2 hg m1
  ·have m2 : ∃ x, B' x = true ∧ ¬ D x = true := by
    refine Classical.byContradiction fun hx => c3 (c1.mn_of hd (fun x hx1 => ?_) f hf2)
    exact Classical.byContradiction fun h => hx ⟨x, hx1, h⟩
   obtain ⟨z, z1, z2⟩ := m2
   have z3 : C z = true := by
    rcases c4 z z1 with h | h
    ·exact absurd h z2
    ·exact h
   have z4 : B z = true := Classical.byContradiction fun h => h3 ⟨z, z3, z2, h⟩
   have hlt := cdA_lt (A := orA B B') (B := orA C D) (y := f) (fun x hx => by
    simp only [orA, Bool.or_eq_true] at hx ⊢
    rcases hx with hx | hx
    ·exact b4 x hx
    ·exact (c4 x hx).symm) (by simp [orA, hf1]) (by simp [orA, b3, c3]) (hc.sup f hf1)
   exact ih B B' (by omega) b1 c1 b2 c2 ⟨z, z4, z1⟩
def Rel (L : List (Nat × Nat)) (e f : Nat) : Prop := e = f ∨ ∃ C, Circ L C ∧ C e = true ∧ C f = true
theorem Rel.refl {L : List (Nat × Nat)} {e : Nat} : Rel L e e := .inl rfl
theorem Rel.symm {L : List (Nat × Nat)} {e f : Nat} (h : Rel L e f) : Rel L f e := by
 rcases h with rfl | ⟨C, h1, h2, h3⟩
 ·exact .inl rfl
 ·exact .inr ⟨C, h1, h3, h2⟩
theorem Rel.trans {L : List (Nat × Nat)} {e f g : Nat} (h : Rel L e f) (h' : Rel L f g) : Rel L e g := by
 rcases h with rfl | ⟨C, h1, h2, h3⟩
 ·exact h'
 rcases h' with rfl | ⟨D, k1, k2, k3⟩
 ·exact .inr ⟨C, h1, h2, h3⟩
 exact .inr (circ_trans_aux _ C D (Nat.le_refl _) h1 k1 h2 k3 ⟨f, h3, k2⟩)
theorem rel_of_cut {L : List (Nat × Nat)} {A : Nat → Bool} (hs : SupA L A) (hev : EvenA L A) {C : Nat → Bool} (hc : Circ L C) (hsub : ∀ f, C f = true → A f = true) {i j : Nat} (S : Nat → Bool) (hi : C i = true) (ci : crs L S i = true) (h : ∀ e, A e = true → crs L S e = true → e = i ∨ e = j) : C j = true := by
 refine Classical.byContradiction fun hj => ?_
 refine xsb_two (f := fun e => C e && crs L S e) (i := i) (j := j) (k := L.length) (fun e he hx => ?_) (hc.ev S) (hc.sup i hi) (by simp [hi, ci]) (by simp [hj])
 simp only [Bool.and_eq_true] at hx
 exact h e (hsub e hx.1) hx.2
end Go.Proofs.Ytgklecfiflhjmaa
