/- A part of the proof. -/
import Derived.Test.YtgklecfiflhjmaaPart03
import Derived.Test.YtgklecfiflhjmaaLayerC
set_option linter.all false
set_option maxHeartbeats 4000000
set_option maxRecDepth 100000
namespace Go.Proofs.Ytgklecfiflhjmaa
open Go.Sp
def itemsP (l : List (Int × Int)) : List (List TVal) := l.zipIdx.map fun p => [tint (p.2 : Int), tpair p.1.1 p.1.2]
theorem itemsP_len (l : List (Int × Int)) : (itemsP l).length = l.length := by simp [itemsP]
theorem itemsP_get {l : List (Int × Int)} {i : Nat} {p : Int × Int} (h : l[i]? = some p) : (itemsP l)[i]? = some [tint (i : Int), tpair p.1 p.2] := by
 simp [itemsP, h]
theorem itemsP_inv {l : List (Int × Int)} {i : Nat} {ts : List TVal} (h : (itemsP l)[i]? = some ts) : ∃ p, l[i]? = some p ∧ ts = [tint (i : Int), tpair p.1 p.2] := by
 simp only [itemsP, List.getElem?_map, List.getElem?_zipIdx] at h
 cases hl : l[i]? with
 | none => simp [hl] at h
 | some p => simp [hl] at h; exact ⟨p, rfl, h.symm⟩
theorem endsL_get {es : List E} {i k : Nat} (h : i < es.length) (hk : k < (es[i]'h).m.toNat) : (endsL es)[(endsL (es.take i)).length + k]? = some (es[i].a, es[i].b) := by
 have e : endsL es = endsL (es.take i) ++ (List.replicate es[i].m.toNat (es[i].a, es[i].b) ++ endsL (es.drop (i + 1))) := by
  rw [← List.append_assoc, ← endsL_take h, ← endsL_append, List.take_append_drop]
 rw [e, List.getElem?_append_right (by omega), Nat.add_sub_cancel_left, List.getElem?_append_left (by rw [List.length_replicate]; exact hk)]
 rw [List.getElem?_replicate, if_pos hk]
theorem singles1_ok (g : G) (hs : (endsL g.es).length < 2 ^ 40) (hl : g.es.length < 2 ^ 40) (hm : ∀ e, e ∈ g.es → e.m < 2 ^ 40) : AIter Try.prog 94 [.rptr [.int .i64 g.n, .slice (eRows g.es)]] (itemsP (endsL g.es)) := by
 refine AIter.of_body Try.func94 rfl (by kernel_rfl) rfl (fun l J Jx hJ hJx hY => ?_)
 simp only [entry, Try.ntmps94, ofT, ofT1, ofTree, List.map_cons, List.map_nil, List.length_cons, List.length_nil, Nat.reduceAdd, Nat.reduceSub, List.replicate_succ, List.replicate_zero, List.cons_append, List.nil_append]
 refine zR (zc @eRows_len trivial) trivial trivial ?_
 refine AWp.loopS (α:=Nat) 30 (fun i=>[(0,.c (.yld l)),(1,.c (.rptr [.int .i64 g.n, .slice (eRows g.es)])),(3,.c (.int .i64 ((endsL (g.es.take i)).length : Int))),(7,.c (.slice (eRows g.es) .none)),(8,.c (.int .i64 (g.es.length : Int))),(9,.c (.int .i64 (i : Int)))]) (fun i=>[.ghost (J (endsL (g.es.take i)).length)]) (fun i=>i ≤ g.es.length) (fun i=>g.es.length - i) (0) (hk:=Weak.headL 1 30 [0, 1, 3, 7, 8, 9] zW) (h0:=?_) (round:=fun i hI=>?_)
 ·exact Nat.zero_le _
 ·by_cases hlt : i < g.es.length
  ·have e1 : g.es[i]? = some g.es[i] := List.getElem?_eq_getElem hlt
   have e2 := eRows_get e1
   have hle := endsL_take_le g.es (i + 1)
   rw [endsL_take hlt, List.length_append, List.length_replicate] at hle
   have hmi := hm g.es[i] (List.getElem_mem hlt)
   repeat' (first|((first|(refine zT ?_;intro K' hK')|(refine zG ?_ ?_<;>(try refine zH ?_)<;>intro hguard<;>(try exact zX)<;>try intro K' hK'))<;>((try simp +contextual only [go_sem, eRows_len, Int.ofNat_lt, e2, Int.toNat_natCast]);(repeat' first|(with_reducible refine hK' _ _ ?_;clear hK' K')|exact zY|with_reducible refine And.intro ?_ ?_|(with_reducible intro hpath;try exact zP)|(refine hK' _ _ ?_;clear hK' K')|fail);try refine zS ?_))|(refine zE ?_;refine hK _ _ ?_;clear hK K)|(refine zN ?_;try refine zS ?_)|refine zA ?_|(refine zB ?_;intro K hK)|(refine zC ?_ ?_<;>(try refine zH ?_)<;>intro hcond<;>try exact zX)|fail)
   ·
    refine AWp.loopS (α:=Nat) 30 (fun k=>[(0,.c (.yld l)),(1,.c (.rptr [.int .i64 g.n, .slice (eRows g.es)])),(3,.c (.int .i64 (((endsL (g.es.take i)).length + k : Nat) : Int))),(5,.c (.ptr 1 0)),(7,.c (.slice (eRows g.es) .none)),(8,.c (.int .i64 (g.es.length : Int))),(9,.c (.int .i64 (i : Int))),(14,.c (.int .i64 g.es[i].m)),(15,.c (.int .i64 (k : Int)))]) (fun k=>[.ghost (J ((endsL (g.es.take i)).length + k)), .box [.int .i64 g.es[i].a, .int .i64 g.es[i].b, .int .i64 g.es[i].m]]) (fun k=>k ≤ g.es[i].m.toNat) (fun k=>g.es[i].m.toNat - k) (0) (hk:=Weak.headL 2 30 [0, 1, 3, 5, 7, 8, 9, 14, 15] zW) (h0:=?_) (round:=fun k hI=>?_)
    ·exact Nat.zero_le _
    ·by_cases hk : (k : Int) < g.es[i].m
     ·
      have hk2 : k < g.es[i].m.toNat := by omega
      have hget := itemsP_get (endsL_get hlt hk2)
      repeat' (first|((with_reducible refine AWp.seq (AWp.of_reg (id:=6) (AReg.pre 7 (fun K hK=>?_))));simp only [List.take_succ_cons,List.take_zero])|((with_reducible refine AWp.of_reg (id:=6) (AReg.pre 7 (fun K hK=>?_)));simp only [List.take_succ_cons,List.take_zero])|((first|(refine zT ?_;intro K' hK')|(refine zG ?_ ?_<;>(try refine zH ?_)<;>intro hguard<;>(try exact zX)<;>try intro K' hK'))<;>((try simp +contextual only [go_sem]);(repeat' first|(with_reducible refine hK' _ _ ?_;clear hK' K')|exact zY|with_reducible refine And.intro ?_ ?_|(with_reducible intro hpath;try exact zP)|(refine hK' _ _ ?_;clear hK' K')|fail);try refine zS ?_))|(refine zE ?_;refine hK _ _ ?_;clear hK K)|(refine zN ?_;try refine zS ?_)|refine zA ?_|(refine zB ?_;intro K hK)|(refine zC ?_ ?_<;>(try refine zH ?_)<;>intro hcond<;>try exact zX)|fail)
      simp only [List.drop_succ_cons, List.drop_zero]
      refine AReg.yield rfl rfl rfl (by rfl) (by with_unfolding_all rfl) (by simp [okBlk]) (hY _ _ hget) (hJ _) hJx ?_ ?_ <;> (try refine zS ?_) <;> refine AReg.rest (fun K hK => ?_)
      ·
       repeat' (first|((first|(refine zT ?_;intro K' hK')|(refine zG ?_ ?_<;>(try refine zH ?_)<;>intro hguard<;>(try exact zX)<;>try intro K' hK'))<;>((try simp +contextual only [go_sem]);(repeat' first|(with_reducible refine hK' _ _ ?_;clear hK' K')|exact zY|with_reducible refine And.intro ?_ ?_|(with_reducible intro hpath;try exact zP)|(refine hK' _ _ ?_;clear hK' K')|fail);try refine zS ?_))|(refine zE ?_;refine hK _ _ ?_;clear hK K)|(refine zN ?_;try refine zS ?_)|refine zA ?_|(refine zB ?_;intro K hK)|(refine zC ?_ ?_<;>(try refine zH ?_)<;>intro hcond<;>try exact zX)|fail)
       refine ⟨k + 1,Weak.headF 2 30 [0, 1, 3, 5, 7, 8, 9, 14, 15] (zc @Nat.add_assoc trivial) zW,?_,?_⟩
       ·exact hk2
       ·omega
      ·
       repeat' (first|((first|(refine zT ?_;intro K' hK')|(refine zG ?_ ?_<;>(try refine zH ?_)<;>intro hguard<;>(try exact zX)<;>try intro K' hK'))<;>((try simp +contextual only [go_sem]);(repeat' first|(with_reducible refine hK' _ _ ?_;clear hK' K')|exact zY|with_reducible refine And.intro ?_ ?_|(with_reducible intro hpath;try exact zP)|(refine hK' _ _ ?_;clear hK' K')|fail);try refine zS ?_))|(refine zE ?_;refine hK _ _ ?_;clear hK K)|(refine zN ?_;try refine zS ?_)|refine zA ?_|(refine zB ?_;intro K hK)|(refine zC ?_ ?_<;>(try refine zH ?_)<;>intro hcond<;>try exact zX)|fail)
       exact ⟨True.intro, _, .inr rfl⟩
     ·
      have ek : k = g.es[i].m.toNat := by omega
      refine zR (zc @e2 trivial) trivial trivial ?_
      refine ⟨i + 1,Weak.headN 1 30 [0, 1, 3, 7, 8, 9] zW (e1:=by first|rfl|(simp [mask,keepL, endsL_take hlt, ek];done)|(simp [mask,keepL, endsL_take hlt, ek]<;>simp_all<;>omega)) (e2:=by first|rfl|(simp [mask,keepL, endsL_take hlt, ek];done)|(simp [mask,keepL, endsL_take hlt, ek]<;>simp_all<;>omega)),?_,?_⟩
      ·exact hlt
      ·omega
  ·have ei : i = g.es.length := by omega
   refine zR (zc @eRows_len (zc @Int.ofNat_lt trivial)) trivial trivial ?_
   exact ⟨True.intro, _, .inl (by rw [itemsP_len, ei, List.take_length])⟩
theorem singles_ok (g : G) : ACall Try.prog 86 [tG g] (.t (.fn 94 [.rptr [.int .i64 g.n, .slice (eRows g.es)]])) := by
 refine ACall.of_body Try.func86 rfl (by kernel_rfl) ?_
 simp only [entry, Try.ntmps86, tG]
 refine zU ?_
 refine zR trivial trivial trivial ?_
 simp [Rets, aret, Blk.cells, ty, Try.results86, ares, toT1, toT, borrow, borrow0, capCell, toTree0]
def xsb (f : Nat → Bool) : Nat → Bool
 | 0 => false
 | k + 1 => xor (xsb f k) (f k)
theorem xsb_congr {f g : Nat → Bool} : ∀ {k : Nat}, (∀ e, e < k → f e = g e) → xsb f k = xsb g k
 | 0, _ => rfl
 | k + 1, h => by unfold xsb; rw [xsb_congr fun e he => h e (by omega), h k (by omega)]
theorem xsb_xor (f g : Nat → Bool) : ∀ k : Nat, xsb (fun e => xor (f e) (g e)) k = xor (xsb f k) (xsb g k)
 | 0 => rfl
 | k + 1 => by
  unfold xsb; rw [xsb_xor f g k]
  cases xsb f k <;> cases xsb g k <;> cases f k <;> cases g k <;> rfl
theorem xsb_false : ∀ k : Nat, xsb (fun _ => false) k = false
 | 0 => rfl
 | k + 1 => by unfold xsb; rw [xsb_false k]; rfl
theorem xsb_one {f : Nat → Bool} {i : Nat} (h : ∀ e, e ≠ i → f e = false) : ∀ {k : Nat}, i < k → xsb f k = f i
 | 0, hi => by omega
 | k + 1, hi => by
  unfold xsb
  by_cases e : i = k
  ·subst e
   rw [xsb_congr (g := fun _ => false) fun j hj => h j (by omega), xsb_false]
   cases f i <;> rfl
  ·rw [xsb_one h (by omega), h k (fun x => e x.symm)]
   cases f i <;> rfl
theorem xsb_two {f : Nat → Bool} {i j k : Nat} (h : ∀ e, e < k → f e = true → e = i ∨ e = j) (hf : xsb f k = false) (hi : i < k) (ht : f i = true) (hj : f j = false) : False := by
 have h2 : xsb f k = f i := by
  have hc : xsb f k = xsb (fun e => if e = i then f i else false) k := xsb_congr fun e he => by
   by_cases e1 : e = i
   ·subst e1; rw [if_pos rfl]
   ·rw [if_neg e1]
    cases hx : f e with
    | false => rfl
    | true => rcases h e he hx with rfl | rfl
              ·exact absurd rfl e1
              ·rw [hj] at hx; cases hx
  rw [hc, xsb_one (i := i) (fun e he => by simp [he]) hi]; simp
 rw [hf, ht] at h2; cases h2
abbrev edL (L : List (Nat × Nat)) (e : Nat) : Nat × Nat := L.getD e (0, 0)
def crs (L : List (Nat × Nat)) (S : Nat → Bool) (e : Nat) : Bool := xor (S (edL L e).1) (S (edL L e).2)
def cross (L : List (Nat × Nat)) (A S : Nat → Bool) : Bool := xsb (fun e => A e && crs L S e) L.length
def EvenA (L : List (Nat × Nat)) (A : Nat → Bool) : Prop := ∀ S, cross L A S = false
def SupA (L : List (Nat × Nat)) (A : Nat → Bool) : Prop := ∀ e, A e = true → e < L.length
def xorA (A B : Nat → Bool) : Nat → Bool := fun e => xor (A e) (B e)
theorem cross_xor (L : List (Nat × Nat)) (A B S : Nat → Bool) : cross L (xorA A B) S = xor (cross L A S) (cross L B S) := by
 unfold cross
 rw [← xsb_xor]
 exact xsb_congr fun e _ => by unfold xorA; cases A e <;> cases B e <;> cases crs L S e <;> rfl
theorem EvenA.xor {L : List (Nat × Nat)} {A B : Nat → Bool} (h1 : EvenA L A) (h2 : EvenA L B) : EvenA L (xorA A B) := fun S => by rw [cross_xor, h1 S, h2 S]; rfl
theorem SupA.xor {L : List (Nat × Nat)} {A B : Nat → Bool} (h1 : SupA L A) (h2 : SupA L B) : SupA L (xorA A B) := fun e h => by
 unfold xorA at h
 cases ha : A e with
 | true => exact h1 e ha
 | false => rw [ha] at h; exact h2 e (by simpa using h)
def oneA (i : Nat) : Nat → Bool := fun e => decide (e = i)
theorem cross_one (L : List (Nat × Nat)) {i : Nat} (hi : i < L.length) (S : Nat → Bool) : cross L (oneA i) S = crs L S i := by
 unfold cross
 rw [xsb_one (i := i) (fun e he => by simp [oneA, he]) hi]; simp [oneA]
theorem SupA.one {L : List (Nat × Nat)} {i : Nat} (hi : i < L.length) : SupA L (oneA i) := fun e h => by
 simp [oneA] at h; omega
def cdA (A : Nat → Bool) : Nat → Nat
 | 0 => 0
 | k + 1 => cdA A k + if A k = true then 1 else 0
theorem cdA_le {A B : Nat → Bool} (h : ∀ e, A e = true → B e = true) : ∀ k, cdA A k ≤ cdA B k
 | 0 => Nat.le_refl _
 | k + 1 => by
  unfold cdA
  have := cdA_le h k
  have h2 := h k
  split <;> split <;> first | omega | (rename_i a b; exact absurd (h2 a) b)
theorem cdA_lt {A B : Nat → Bool} (h : ∀ e, A e = true → B e = true) {y : Nat} (hb : B y = true) (ha : ¬ A y = true) : ∀ {k}, y < k → cdA A k < cdA B k
 | 0, hk => by omega
 | k + 1, hk => by
  unfold cdA
  by_cases e : y = k
  ·subst e
   rw [if_neg ha, if_pos hb]
   have := cdA_le h y; omega
  ·have := cdA_lt h hb ha (k := k) (by omega)
   have h2 := h k
   split <;> split <;> first | omega | (rename_i a b; exact absurd (h2 a) b)
structure Circ (L : List (Nat × Nat)) (C : Nat → Bool) : Prop where
 sup : SupA L C
 ev : EvenA L C
 ne : ∃ e, C e = true
 mn : ∀ D : Nat → Bool, (∀ e, D e = true → C e = true) → EvenA L D → (∃ e, D e = true) → ∀ e, C e = true → D e = true
theorem circ_in_aux {L : List (Nat × Nat)} : ∀ (n : Nat) (A : Nat → Bool), cdA A L.length ≤ n → SupA L A → EvenA L A → ∀ e, A e = true → ∃ C, Circ L C ∧ C e = true ∧ ∀ f, C f = true → A f = true := by
 intro n
 induction n with
 | zero =>
  intro A hn hs _ e he
  have := cdA_lt (A := fun _ => false) (B := A) (fun e h => by cases h) he (by simp) (hs e he)
  omega
 | succ n ih =>
  intro A hn hs hev e he
  by_cases hx : ∃ D : Nat → Bool, (∀ f, D f = true → A f = true) ∧ EvenA L D ∧ (∃ f, D f = true) ∧ ∃ f, A f = true ∧ ¬ D f = true
  ·obtain ⟨D, h1, h2, ⟨f, h3⟩, g, h4, h5⟩ := hx
   by_cases hd : D e = true
   ·have hlt := cdA_lt h1 h4 h5 (hs g h4)
    obtain ⟨C, c1, c2, c3⟩ := ih D (by omega) (fun x hx => hs x (h1 x hx)) h2 e hd
    exact ⟨C, c1, c2, fun x hx => h1 x (c3 x hx)⟩
   ·have hsub : ∀ x, xorA A D x = true → A x = true := fun x hx => by
     unfold xorA at hx
     cases ha : A x with
     | true => rfl
     | false =>
      rw [ha] at hx
      have : D x = true := by simpa using hx
      rw [h1 x this] at ha; cases ha
    have hlt := cdA_lt hsub (y := f) (h1 f h3) (by unfold xorA; rw [h1 f h3, h3]; simp) (hs f (h1 f h3))
    obtain ⟨C, c1, c2, c3⟩ := ih (xorA A D) (by omega) (fun x hx => hs x (hsub x hx)) (hev.xor h2) e (by unfold xorA; rw [he]; simpa using hd)
    exact ⟨C, c1, c2, fun x hx => hsub x (c3 x hx)⟩
  ·refine ⟨A, ⟨hs, hev, ⟨e, he⟩, fun D h1 h2 h3 x hx1 => ?_⟩, he, fun _ h => h⟩
   exact Classical.byContradiction fun h4 => hx ⟨D, h1, h2, h3, x, hx1, h4⟩
theorem circ_in {L : List (Nat × Nat)} {A : Nat → Bool} (hs : SupA L A) (hev : EvenA L A) {e : Nat} (he : A e = true) : ∃ C, Circ L C ∧ C e = true ∧ ∀ f, C f = true → A f = true := circ_in_aux _ A (Nat.le_refl _) hs hev e he
theorem Circ.elim {L : List (Nat × Nat)} {C D : Nat → Bool} (h1 : Circ L C) (h2 : Circ L D) {e f : Nat} (he : C e = true) (he' : ¬ D e = true) (hf : C f = true) (hf' : D f = true) :
  ∃ B, Circ L B ∧ B e = true ∧ ¬ B f = true ∧ ∀ x, B x = true → C x = true ∨ D x = true := by
 obtain ⟨B, b1, b2, b3⟩ := circ_in (h1.sup.xor h2.sup) (h1.ev.xor h2.ev) (e := e) (by unfold xorA; rw [he]; simpa using he')
 refine ⟨B, b1, b2, fun h => ?_, fun x hx => ?_⟩
 ·have := b3 f h
  unfold xorA at this
  rw [hf, hf'] at this; cases this
 ·have := b3 x hx
  unfold xorA at this
  cases hc : C x with
  | true => exact .inl rfl
  | false => rw [hc] at this; exact .inr (by simpa using this)
theorem Circ.mn_of {L : List (Nat × Nat)} {C D : Nat → Bool} (h1 : Circ L C) (h2 : Circ L D) (hs : ∀ x, C x = true → D x = true) : ∀ x, D x = true → C x = true := h2.mn C hs h1.ev h1.ne
def orA (A B : Nat → Bool) : Nat → Bool := fun e => A e || B e
theorem circ_trans_aux {L : List (Nat × Nat)} {e g : Nat} : ∀ (n : Nat) (C D : Nat → Bool), cdA (orA C D) L.length ≤ n → Circ L C → Circ L D → C e = true → D g = true → (∃ f, C f = true ∧ D f = true) → ∃ B, Circ L B ∧ B e = true ∧ B g = true := by
 intro n
 induction n with
 | zero =>
  intro C D hn hc hd he _ _
  have := cdA_lt (A := fun _ => false) (B := orA C D) (y := e) (fun e h => by cases h) (by simp [orA, he]) (by simp) (hc.sup e he)
  omega
 | succ n ih =>
  intro C D hn hc hd he hg ⟨f, hf1, hf2⟩
  by_cases h1 : D e = true
  ·exact ⟨D, hd, h1, hg⟩
  by_cases h2 : C g = true
  ·exact ⟨C, hc, he, h2⟩
  obtain ⟨B, b1, b2, b3, b4⟩ := hc.elim hd he h1 hf1 hf2
  obtain ⟨B', c1, c2, c3, c4⟩ := hd.elim hc hg h2 hf2 hf1
  have m1 : ∃ x, B x = true ∧ D x = true := by
   refine Classical.byContradiction fun hx => b3 (b1.mn_of hc (fun x hx1 => ?_) f hf1)
   rcases b4 x hx1 with h | h
   ·exact h
   ·exact absurd ⟨x, hx1, h⟩ hx
  by_cases h3 : ∃ y, C y = true ∧ ¬ D y = true ∧ ¬ B y = true
  ·obtain ⟨y, y1, y2, y3⟩ := h3
   have hlt := cdA_lt (A := orA B D) (B := orA C D) (y := y) (fun x hx => by
    simp only [orA, Bool.or_eq_true] at hx ⊢
    rcases hx with hx | hx
    ·exact b4 x hx
    ·exact .inr hx) (by simp [orA, y1]) (by simp [orA, y2, y3]) (hc.sup y y1)
   exact ih B D (by omega) b1 hd b2 hg m1
  ·have m2 : ∃ x, B' x = true ∧ ¬ D x = true := by
    refine Classical.byContradiction fun hx => c3 (c1.mn_of hd (fun x hx1 => ?_) f hf2)
    exact Classical.byContradiction fun h => hx ⟨x, hx1, h⟩
   obtain ⟨z, z1, z2⟩ := m2
   have z3 : C z = true := by
    rcases c4 z z1 with h | h
    ·exact absurd h z2
    ·exact h
   have z4 : B z = true := Classical.byContradiction fun h => h3 ⟨z, z3, z2, h⟩
   have hlt := cdA_lt (A := orA B B') (B := orA C D) (y := f) (fun x hx => by
    simp only [orA, Bool.or_eq_true] at hx ⊢
    rcases hx with hx | hx
    ·exact b4 x hx
    ·exact (c4 x hx).symm) (by simp [orA, hf1]) (by simp [orA, b3, c3]) (hc.sup f hf1)
   exact ih B B' (by omega) b1 c1 b2 c2 ⟨z, z4, z1⟩
def Rel (L : List (Nat × Nat)) (e f : Nat) : Prop := e = f ∨ ∃ C, Circ L C ∧ C e = true ∧ C f = true
theorem Rel.refl {L : List (Nat × Nat)} {e : Nat} : Rel L e e := .inl rfl
theorem Rel.symm {L : List (Nat × Nat)} {e f : Nat} (h : Rel L e f) : Rel L f e := by
 rcases h with rfl | ⟨C, h1, h2, h3⟩
 ·exact .inl rfl
 ·exact .inr ⟨C, h1, h3, h2⟩
theorem Rel.trans {L : List (Nat × Nat)} {e f g : Nat} (h : Rel L e f) (h' : Rel L f g) : Rel L e g := by
 rcases h with rfl | ⟨C, h1, h2, h3⟩
 ·exact h'
 rcases h' with rfl | ⟨D, k1, k2, k3⟩
 ·exact .inr ⟨C, h1, h2, h3⟩
 exact .inr (circ_trans_aux _ C D (Nat.le_refl _) h1 k1 h2 k3 ⟨f, h3, k2⟩)
theorem rel_of_cut {L : List (Nat × Nat)} {A : Nat → Bool} (hs : SupA L A) (hev : EvenA L A) {C : Nat → Bool} (hc : Circ L C) (hsub : ∀ f, C f = true → A f = true) {i j : Nat} (S : Nat → Bool) (hi : C i = true) (ci : crs L S i = true) (h : ∀ e, A e = true → crs L S e = true → e = i ∨ e = j) : C j = true := by
 refine Classical.byContradiction fun hj => ?_
 refine xsb_two (f := fun e => C e && crs L S e) (i := i) (j := j) (k := L.length) (fun e he hx => ?_) (hc.ev S) (hc.sup i hi) (by simp [hi, ci]) (by simp [hj])
 simp only [Bool.and_eq_true] at hx
 exact h e (hsub e hx.1) hx.2
theorem itemsP_ps {l : List (Int × Int)} {n : Nat} (hn : n = 2) (k : Nat) (ts : List TVal) (h : (itemsP l)[k]? = some ts) : ts.length = n := by
 obtain ⟨p, _, rfl⟩ := itemsP_inv h; exact hn.symm
theorem take_snoc {α : Type} {l : List α} {k : Nat} {p : α} (h : l[k]? = some p) : l.take (k + 1) = l.take k ++ [p] := by
 obtain ⟨hk, rfl⟩ := List.getElem?_eq_some_iff.1 h
 exact List.take_succ_eq_append_getElem hk
theorem checkE_zero {n : Int} {es : List E} : ∀ {k : Nat}, k ≤ es.length → (checkE n es k = 0 ↔ ∀ i, es.length - k ≤ i → i < es.length → edgeE n es i = 0) := by
 intro k
 induction k with
 | zero => intro _; simp only [checkE, true_iff]; intro i h1 h2; omega
 | succ k ih =>
  intro hk
  simp only [checkE]
  by_cases h : edgeE n es (es.length - (k + 1)) = 0
  ·rw [if_neg (by simp [h]), ih (by omega)]
   constructor
   ·intro hx i h1 h2
    by_cases e : i = es.length - (k + 1)
    ·subst e; exact h
    ·exact hx i (by omega) h2
   ·intro hx i h1 h2; exact hx i (by omega) h2
  ·rw [if_pos h]
   constructor
   ·intro hx; exact absurd hx h
   ·intro hx; exact absurd (hx _ (Nat.le_refl _) (by omega)) h
def ltE (x y : E) : Prop := x.a < y.a ∨ (x.a = y.a ∧ x.b < y.b)
def okE (n : Int) (x : E) : Prop := 0 ≤ x.a ∧ x.a ≤ x.b ∧ x.b < n ∧ 1 ≤ x.m ∧ x.m ≤ 50
theorem edgeE_iff {n : Int} {es : List E} {i : Nat} (hi : i < es.length) : edgeE n es i = 0 ↔ okE n es[i] ∧ ∀ j (hj : j + 1 = i), ltE (es[j]'(by omega)) es[i] := by
 unfold edgeE okE ltE
 rw [List.getElem?_eq_getElem hi]
 simp only
 by_cases h1 : ¬ (0 ≤ es[i].a ∧ es[i].a < n) ∨ ¬ (0 ≤ es[i].b ∧ es[i].b < n) ∨ es[i].m < 1 ∨ 50 < es[i].m
 ·rw [if_pos h1]; constructor
  ·intro h; omega
  ·rintro ⟨h, _⟩; omega
 ·rw [if_neg h1]
  by_cases h2 : es[i].b < es[i].a
  ·rw [if_pos h2]; constructor
   ·intro h; omega
   ·rintro ⟨h, _⟩; omega
  ·rw [if_neg h2]
   cases i with
   | zero => simp only [true_iff]; exact ⟨by omega, fun j hj => by omega⟩
   | succ j =>
    have hj : j < es.length := by omega
    simp only [List.getElem?_eq_getElem hj]
    constructor
    ·intro h
     split at h
     ·omega
     ·refine ⟨by omega, fun j' e => ?_⟩
      have : j' = j := by omega
      subst this; omega
    ·rintro ⟨h, h3⟩
     have := h3 j rfl
     rw [if_neg (by omega)]
theorem checkG_zero {g : G} : checkG g = 0 ↔ (1 ≤ g.n ∧ g.n ≤ 12) ∧ (∀ e, e ∈ g.es → okE g.n e) ∧ g.es.Pairwise ltE := by
 unfold checkG
 by_cases h1 : g.n < 1 ∨ 12 < g.n
 ·rw [if_pos h1]; constructor
  ·intro h; omega
  ·rintro ⟨h, _⟩; omega
 ·rw [if_neg h1, checkE_zero (Nat.le_refl _), Nat.sub_self]
  constructor
  ·intro h
   refine ⟨by omega, fun e he => ?_, ?_⟩
   ·obtain ⟨i, hi, rfl⟩ := List.mem_iff_getElem.1 he
    exact ((edgeE_iff hi).1 (h i (Nat.zero_le _) hi)).1
   ·rw [List.pairwise_iff_getElem]
    intro i j hi hj hij
    have step : ∀ d (hd : i + 1 + d < g.es.length), ltE g.es[i] g.es[i + 1 + d] := by
     intro d
     induction d with
     | zero => intro hd; exact ((edgeE_iff hd).1 (h _ (Nat.zero_le _) hd)).2 i (by omega)
     | succ d ih =>
      intro hd
      have h2 := ih (by omega)
      have h3 := ((edgeE_iff hd).1 (h _ (Nat.zero_le _) hd)).2 (i + 1 + d) (by omega)
      unfold ltE at *; omega
    have := step (j - (i + 1)) (by omega)
    have e : i + 1 + (j - (i + 1)) = j := by omega
    simp only [e] at this
    exact this
  ·rintro ⟨_, h2, h3⟩ i _ hi
   rw [List.pairwise_iff_getElem] at h3
   exact (edgeE_iff hi).2 ⟨h2 _ (List.getElem_mem hi), fun j hj => h3 j i (by omega) hi (by omega)⟩
theorem endsL_len {es : List E} (h : ∀ e, e ∈ es → e.m ≤ 50) : (endsL es).length ≤ 50 * es.length := by
 induction es with
 | nil => simp [endsL]
 | cons x xs ih =>
  have h1 := h x (by simp)
  have h2 := ih fun e he => h e (by simp [he])
  have e : endsL (x :: xs) = endsL [x] ++ endsL xs := by rw [← endsL_append]; rfl
  rw [e, List.length_append, endsL_one, List.length_replicate, List.length_cons]; omega
structure Sm (g : G) : Prop where
 es : g.es.length < 2 ^ 40
 m : ∀ e, e ∈ g.es → e.m < 2 ^ 40
 s : (endsL g.es).length < 2 ^ 40
theorem sm_of {g : G} (hl : g.es.length < 2 ^ 30) (h : checkG g = 0) : Sm g := by
 obtain ⟨_, h2, _⟩ := checkG_zero.1 h
 refine ⟨by omega, fun e he => ?_, ?_⟩
 ·have := h2 e he; unfold okE at this; omega
 ·have := endsL_len (es := g.es) fun e he => by have := h2 e he; unfold okE at this; omega
  omega
def tpairs (l : List (Int × Int)) : TVal := .t (.slice (pRows l))
attribute [go_sem] tpairs
theorem Ends_ok (g : G) (hl : g.es.length < 2 ^ 30) : ACall Try.prog 74 [tG g] (if checkG g ≠ 0 then .tup [.t (.slice []), tint (checkG g)] else .tup [tpairs (endsL g.es), tint 0]) := by
 refine ACall.of_body Try.func74 rfl (by kernel_rfl) ?_
 simp only [entry, Try.ntmps74, tG]
 refine zU ?_
 repeat' (first|((first|(refine zT ?_;intro K' hK')|(refine zG ?_ ?_<;>(try refine zH ?_)<;>intro hguard<;>(try exact zX)<;>try intro K' hK'))<;>((try simp +contextual only [go_sem]);(repeat' first|(with_reducible refine hK' _ _ ?_;clear hK' K')|((with_reducible first|refine zL (c:=Check_ok g (by omega)) (q:=?_)|refine zK (singles_ok g) ?_);try simp +contextual only [go_sem])|exact zY|with_reducible refine And.intro ?_ ?_|(with_reducible intro hpath;try exact zP)|(refine hK' _ _ ?_;clear hK' K')|fail);try refine zS ?_))|(refine zE ?_;refine hK _ _ ?_;clear hK K)|(refine zN ?_;try refine zS ?_)|refine zA ?_|(refine zB ?_;intro K hK)|(refine zC ?_ ?_<;>(try refine zH ?_)<;>intro hcond<;>try exact zX)|fail)
 ·rw [if_pos (by assumption)]
  simp [Rets, aret, Blk.cells, ty, Try.results74, ares, toT1, toT, borrow, borrow0, capCell, toTree0, tint]
 ·
  rw [if_neg (by omega)]
  have hs := sm_of hl (by omega)
  refine AWp.weak (Weak.openB 1 0 2 rfl rfl (by omega)) ?_
  simp only [List.set_cons_succ, List.set_cons_zero, List.length_cons, List.length_nil, List.length_append, Nat.reduceAdd, List.cons_append, List.nil_append]
  refine AWp.weak (Weak.head (m := 3) (by omega) ((fun t f => [f, t, f, f, f, t, f, f, f, f, f, f, f, f, t, f, f, f, f, f, f, f, f, f, f, f]) true false) (by first | rfl | simp [mask]) (by first | rfl | simp) (by (repeat' (first | exact valsIn_nil _ | refine valsIn_cons ?_ ?_ | refine cellsIn_cons ?_ ?_ | exact cellsIn_nil _ | exact True.intro | (show _ < _; omega) | (intro c hc; cases hc; done) | (intro c hc; simp only [List.mem_cons, List.not_mem_nil, or_false] at hc; subst hc; exact True.intro) | (intro c hc; simp only [List.mem_cons, List.not_mem_nil, or_false] at hc; rcases hc with rfl | rfl <;> exact True.intro)))) (by (repeat' (first | exact valsIn_nil _ | exact blksIn_nil _ | exact cellsIn_nil _ | refine And.intro ?_ ?_ | refine valsIn_cons ?_ ?_ | refine blksIn_cons ?_ ?_ | refine cellsIn_cons ?_ ?_ | exact True.intro | (show _ < _; omega) | exact cellsIn_map (fun _ => True.intro) | (intro c hc; cases hc; done) | (intro c hc; simp only [List.mem_cons, List.not_mem_nil, or_false] at hc; subst hc; exact True.intro) | (intro c hc; simp only [List.mem_cons, List.not_mem_nil, or_false] at hc; rcases hc with rfl | rfl <;> exact True.intro))))) (AWp.rangeFunc (fun k H => H = [.box [.int .i64 g.n, .slice (eRows g.es) .none], .box [.slice (pRows ((endsL g.es).take k)) (.chain 2)], .chain ((endsL g.es).take k).length 2] ∧ (True)) (fun _ _ => False) 3 rfl (singles1_ok g hs.s hs.es hs.m) (itemsP_ps rfl) (by omega) (by (repeat' (first | exact valsIn_nil _ | refine valsIn_cons ?_ ?_ | refine cellsIn_cons ?_ ?_ | exact cellsIn_nil _ | exact True.intro | (show _ < _; omega) | (intro c hc; cases hc; done) | (intro c hc; simp only [List.mem_cons, List.not_mem_nil, or_false] at hc; subst hc; exact True.intro) | (intro c hc; simp only [List.mem_cons, List.not_mem_nil, or_false] at hc; rcases hc with rfl | rfl <;> exact True.intro)))) (by rintro _ _ ⟨rfl, -⟩; simp) (fun _ _ h => h.elim) ?_ (fun l k ts H hts hI => ?_) (fun H hI => ?_) (fun e H h => h.elim))
  ·exact ⟨rfl, trivial⟩
  ·obtain ⟨rfl, -⟩ := hI
   obtain ⟨p, hp, rfl⟩ := itemsP_inv hts
   simp only [mask, setPs, List.zip_cons_cons, List.zip_nil_right, List.zip_nil_left, List.foldl_cons, List.foldl_nil, List.set_cons_succ, List.set_cons_zero, ofT, ofT1, ofTree, List.map_cons, List.map_nil, ofT, ofT1, toT, toT1, toTree0, tint, tbool, tpair, tG]
   have hk : k < (endsL g.es).length := (List.getElem?_eq_some_iff.1 hp).1
   have hkl : ((endsL g.es).take k).length = k := by rw [List.length_take]; omega
   have := hs.s
   refine zRc (zc @pRows_len (zc @pRows_snoc (zc @hkl trivial))) trivial @pRows_k' ?_
   refine ⟨⟨_, _⟩, Weak.head2 (m := 3) (by decide) ((fun t f => [f, f, f, f, f, f, f, f, f, f, f, f, f, f, f, f, f, f, f, f, f, f, f, f, f, f]) true false) rfl rfl zW, ?_, ?_⟩
   ·simp [take_snoc hp, hkl]
   ·trivial
  ·obtain ⟨rfl, -⟩ := hI
   simp only [mask]
   refine zR trivial trivial trivial ?_
   simp [Rets, aret, Blk.cells, ty, Try.results74, ares, toT1, toT, borrow, borrow0, capCell, toTree0, tint, tpairs, itemsP_len]
abbrev sn (s : BS) (x : Nat) : Nat := s.seen.getD x 0
abbrev lw (s : BS) (x : Nat) : Nat := s.low.getD x 0
def NL (L : List (Nat × Nat)) (e : Nat) : Prop := e < L.length ∧ (edL L e).1 ≠ (edL L e).2
def tch (L : List (Nat × Nat)) (e x : Nat) : Prop := (edL L e).1 = x ∨ (edL L e).2 = x
structure Wit (L : List (Nat × Nat)) (S : Nat → Prop) (v y : Nat) (A : Nat → Bool) (b : Nat) : Prop where
 sup : SupA L A
 bd : ∀ T : Nat → Bool, cross L A T = xor (T v) (T y)
 ab : A b = true
 nl : NL L b
 tb : tch L b y
 ins : ∀ e, A e = true → e ≠ b → ∀ x, tch L e x → S x
 bs : ∀ x, tch L b x → S x ∨ x = y
structure PathA (L : List (Nat × Nat)) (anc : Nat → Prop) (v : Nat) (by' : Int) (y : Nat) (Q : Nat → Bool) : Prop where
 sup : SupA L Q
 bd : ∀ T : Nat → Bool, cross L Q T = xor (T y) (T v)
 ins : ∀ e, Q e = true → ∀ x, tch L e x → anc x ∨ x = v
 last : ∀ e, Q e = true → tch L e v → (e : Int) = by'
theorem crs_ends {L : List (Nat × Nat)} {e u v : Nat} (T : Nat → Bool) (hu : tch L e u) (hv : tch L e v) (hne : u ≠ v) : crs L T e = xor (T u) (T v) := by
 unfold crs tch at *
 rcases hu with hu | hu <;> rcases hv with hv | hv
 ·exact absurd (hu.symm.trans hv) hne
 ·rw [hu, hv]
 ·rw [hu, hv]; cases T u <;> cases T v <;> rfl
 ·exact absurd (hu.symm.trans hv) hne
theorem crs_true {L : List (Nat × Nat)} {T : Nat → Bool} {e : Nat} (h : crs L T e = true) : (∃ x, tch L e x ∧ T x = true) ∧ ∃ x, tch L e x ∧ T x = false := by
 unfold crs at h
 cases h1 : T (edL L e).1 <;> cases h2 : T (edL L e).2 <;> rw [h1, h2] at h
 ·cases h
 ·exact ⟨⟨_, .inr rfl, h2⟩, _, .inl rfl, h1⟩
 ·exact ⟨⟨_, .inl rfl, h1⟩, _, .inr rfl, h2⟩
 ·cases h
theorem tch_two {L : List (Nat × Nat)} {e u v x : Nat} (hu : tch L e u) (hv : tch L e v) (hne : u ≠ v) (hx : tch L e x) : x = u ∨ x = v := by
 unfold tch at *; omega
theorem rel_back {L : List (Nat × Nat)} {anc : Nat → Prop} {v u b : Nat} {by' : Int} {Q : Nat → Bool} (hQ : PathA L anc v by' u Q) (hb : b < L.length) (hu : tch L b u) (hv : tch L b v) (hne : u ≠ v) (hby : (b : Int) ≠ by') (h0 : 0 ≤ by') : Rel L by'.toNat b := by
 have hqb : Q b = false := by
  cases h : Q b with
  | false => rfl
  | true => exact absurd (hQ.last b h hv) hby
 have hev : EvenA L (xorA (oneA b) Q) := fun T => by
  rw [cross_xor, cross_one L hb, hQ.bd, crs_ends T hu hv hne]; cases T u <;> cases T v <;> rfl
 have hsup : SupA L (xorA (oneA b) Q) := (SupA.one hb).xor hQ.sup
 obtain ⟨C, c1, c2, c3⟩ := circ_in hsup hev (e := b) (by simp [xorA, oneA, hqb])
 have := rel_of_cut hsup hev c1 c3 (i := b) (j := by'.toNat) (fun x => decide (x = v)) c2 (by rw [crs_ends _ hu hv hne]; simp [hne]) (fun e he hx => by
  by_cases e1 : e = b
  ·exact .inl e1
  ·right
   have hq : Q e = true := by simpa [xorA, oneA, e1] using he
   obtain ⟨⟨x, hx1, hx2⟩, _⟩ := crs_true hx
   have hxv : x = v := by simpa using hx2
   subst hxv
   have := hQ.last e hq hx1
   omega)
 exact .inr ⟨C, c1, this, c2⟩
theorem rel_child {L : List (Nat × Nat)} {anc : Nat → Prop} {v w y e b : Nat} {by' : Int} {Q A : Nat → Bool} {S : Nat → Prop} [DecidablePred S] (hQ : PathA L anc v by' y Q) (hA : Wit L S w y A b) (he : e < L.length) (hv : tch L e v) (hw : tch L e w) (hSw : S w) (hSv : ¬ S v) (hyv : y ≠ v) (hya : anc y)
  (hanc : ∀ x, anc x → ¬ S x) (h0 : 0 ≤ by') : Rel L by'.toNat e := by
 have hne : v ≠ w := fun h => hSv (h ▸ hSw)
 have hae : A e = false := by
  cases h : A e with
  | false => rfl
  | true =>
   exfalso
   by_cases eb : e = b
   ·subst eb
    rcases hA.bs v hv with h1 | h1
    ·exact hSv h1
    ·exact hyv h1.symm
   ·exact hSv (hA.ins e h eb v hv)
 have hqe : Q e = false := by
  cases h : Q e with
  | false => rfl
  | true =>
   rcases hQ.ins e h w hw with h1 | h1
   ·exact absurd hSw (hanc w h1)
   ·exact absurd h1.symm hne
 have hev : EvenA L (xorA (xorA A (oneA e)) Q) := fun T => by
  rw [cross_xor, cross_xor, cross_one L he, hQ.bd, hA.bd, crs_ends T hv hw hne]
  cases T v <;> cases T w <;> cases T y <;> rfl
 have hsup : SupA L (xorA (xorA A (oneA e)) Q) := (hA.sup.xor (SupA.one he)).xor hQ.sup
 obtain ⟨C, c1, c2, c3⟩ := circ_in hsup hev (e := e) (by simp [xorA, oneA, hae, hqe])
 have cases3 : ∀ f, xorA (xorA A (oneA e)) Q f = true → A f = true ∨ f = e ∨ Q f = true := fun f hf => by
  unfold xorA oneA at hf
  by_cases q1 : A f = true
  ·exact .inl q1
  by_cases q2 : f = e
  ·exact .inr (.inl q2)
  by_cases q3 : Q f = true
  ·exact .inr (.inr q3)
  simp [q1, q2, q3] at hf
 have hSy : ¬ S y := hanc y hya
 obtain ⟨z, hz1, hz2⟩ : ∃ z, tch L b z ∧ S z := by
  obtain ⟨_, hnl⟩ := hA.nl
  by_cases q : (edL L b).1 = y
  ·rcases hA.bs _ (.inr rfl) with h1 | h1
   ·exact ⟨_, .inr rfl, h1⟩
   ·exact absurd (q.trans h1.symm) hnl
  ·rcases hA.bs _ (.inl rfl) with h1 | h1
   ·exact ⟨_, .inl rfl, h1⟩
   ·exact absurd h1 q
 have hzy : z ≠ y := fun h => hSy (h ▸ hz2)
 have cb : C b = true := rel_of_cut hsup hev c1 c3 (i := e) (j := b) (fun x => decide (S x)) c2 (by rw [crs_ends _ hv hw hne]; simp [hSv, hSw]) (fun f hf hx => by
  obtain ⟨⟨x, hx1, hx2⟩, x', hx3, hx4⟩ := crs_true hx
  simp only [decide_eq_true_eq, decide_eq_false_iff_not] at hx2 hx4
  rcases cases3 f hf with h1 | h1 | h1
  ·by_cases eb : f = b
   ·exact .inr eb
   ·exact absurd (hA.ins f h1 eb x' hx3) hx4
  ·exact .inl h1
  ·exfalso
   rcases hQ.ins f h1 x hx1 with h2 | h2
   ·exact hanc x h2 hx2
   ·exact hSv (h2 ▸ hx2))
 have cby := rel_of_cut hsup hev c1 c3 (i := b) (j := by'.toNat) (fun x => decide (S x ∨ x = v)) cb (by rw [crs_ends _ hz1 hA.tb hzy]; simp [hz2, hSy, hyv]) (fun f hf hx => by
  obtain ⟨⟨x, hx1, hx2⟩, x', hx3, hx4⟩ := crs_true hx
  simp only [decide_eq_true_eq, decide_eq_false_iff_not, not_or] at hx2 hx4
  rcases cases3 f hf with h1 | h1 | h1
  ·by_cases eb : f = b
   ·exact .inl eb
   ·exact absurd (hA.ins f h1 eb x' hx3) hx4.1
  ·subst h1
   exfalso
   rcases tch_two hv hw hne hx3 with h2 | h2
   ·exact hx4.2 h2
   ·exact hx4.1 (h2 ▸ hSw)
  ·right
   rcases hx2 with hx2 | hx2
   ·exfalso
    rcases hQ.ins f h1 x hx1 with h2 | h2
    ·exact hanc x h2 hx2
    ·exact hSv (h2 ▸ hx2)
   ·subst hx2
    have := hQ.last f h1 hx1
    omega)
 exact .inr ⟨C, c1, cby, c2⟩
theorem insM_perm (x : Nat) : ∀ l, (insN x l).Perm (x :: l)
 | [] => List.Perm.refl _
 | y :: l => by
  unfold insN; split
  ·exact List.Perm.refl _
  ·exact ((insM_perm x l).cons y).trans (List.Perm.swap ..)
theorem isortM_perm : ∀ l, (isortN l).Perm l
 | [] => List.Perm.refl _
 | x :: l => by unfold isortN; exact (insM_perm x _).trans ((isortM_perm l).cons x)
theorem insM_sorted {x : Nat} : ∀ {l : List Nat}, l.Pairwise (· ≤ ·) → (insN x l).Pairwise (· ≤ ·)
 | [], _ => by simp [insN]
 | y :: l, h => by
  unfold insN
  rw [List.pairwise_cons] at h
  split
  ·rename_i hx
   rw [List.pairwise_cons]
   refine ⟨fun z hz => ?_, List.pairwise_cons.2 h⟩
   rcases List.mem_cons.1 hz with rfl | hz
   ·exact hx
   ·have := h.1 z hz; omega
  ·rename_i hx
   rw [List.pairwise_cons]
   refine ⟨fun z hz => ?_, insM_sorted h.2⟩
   have := (insM_perm x l).mem_iff.1 hz
   rcases List.mem_cons.1 this with rfl | hz
   ·omega
   ·exact h.1 z hz
theorem isortM_sorted : ∀ l, (isortN l).Pairwise (· ≤ ·)
 | [] => List.Pairwise.nil
 | x :: l => by unfold isortN; exact insM_sorted (isortM_sorted l)
theorem isortN_strict {l : List Nat} (h : l.Nodup) : (isortN l).Pairwise (· < ·) := by
 have h1 := isortM_sorted l
 have h2 : (isortN l).Nodup := (isortM_perm l).nodup_iff.2 h
 rw [List.Nodup] at h2
 refine (h1.and h2).imp fun {a b} h => by omega
theorem sn_set {l : List Nat} {i x a : Nat} (hi : i < l.length) : (l.set i a).getD x 0 = if x = i then a else l.getD x 0 := by
 simp only [List.getD_eq_getElem?_getD, List.getElem?_set]
 by_cases h : i = x
 ·subst h; simp [hi]
 ·rw [if_neg h, if_neg (fun e => h e.symm)]
theorem atV_iff {L : List (Nat × Nat)} {v e : Nat} : e ∈ atV L v ↔ NL L e ∧ tch L e v := by
 unfold atV NL tch edL
 simp only [List.mem_filter, List.mem_range, Bool.and_eq_true, Bool.or_eq_true, decide_eq_true_eq]
 constructor
 ·rintro ⟨h1, h2, h3⟩; exact ⟨⟨h1, h2⟩, h3⟩
 ·rintro ⟨⟨h1, h2⟩, h3⟩; exact ⟨h1, h2, h3⟩
theorem atV_nodup (L : List (Nat × Nat)) (v : Nat) : (atV L v).Nodup := List.Pairwise.filter _ List.nodup_range
theorem oth_tch {L : List (Nat × Nat)} {v e : Nat} (hn : NL L e) (hv : tch L e v) : tch L e ((edL L e).1 + (edL L e).2 - v) ∧ (edL L e).1 + (edL L e).2 - v ≠ v := by
 obtain ⟨_, hn⟩ := hn
 unfold tch at *; omega
end Go.Proofs.Ytgklecfiflhjmaa
