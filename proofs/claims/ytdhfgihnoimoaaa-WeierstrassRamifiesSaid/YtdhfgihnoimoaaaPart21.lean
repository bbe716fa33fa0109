/- A part of the proof. -/
import Derived.Test.YtdhfgihnoimoaaaPart17
import Derived.Test.YtdhfgihnoimoaaaPart16
import Derived.Test.YtdhfgihnoimoaaaLayerC
set_option linter.all false
set_option maxHeartbeats 4000000
set_option maxRecDepth 100000
namespace Go.Proofs.Ytdhfgihnoimoaaa
open Go.Sp
theorem A9z (F:List Nat) (k:Nat):rootsN F k=((List.range k).filter fun v=>decide (F[v]? =some v)).length:=by
 induction k with
 | zero=>rfl
 | succ k ih=>
  simp only [rootsN]
  rw [ih,List.range_succ,List.filter_append,List.length_append]
  by_cases h:F[k]? =some k<;>simp [h]
set_option maxHeartbeats 1000000
def A3m (n:Nat) (M:Nat→Nat→Int) (D:Nat→Int) (k:Nat):Prop:= ∀E:Nat→Int,(∀v,v<n→0≤E v)→sumR E n=k→win n M (fun v=>D v-E v)
def A5p (D:Nat→Int) (v:Nat):Nat→Int:=fun u=>D u-if u=v then 1 else 0
theorem B3G {p:Nat→Bool} (hp: ∀k,p (k+1)=true→p k=true): ∀{N k:Nat},k<(List.range N).countP p↔k<N∧p k=true:=by
 have le: ∀{j k:Nat},j≤k→p k=true→p j=true:=fun {j k} h=>by
  induction k with
  | zero=>intro q; rw [show j=0 by omega]; exact q
  | succ k ih=>
   intro q
   by_cases e:j=k+1
   ·rw [e]; exact q
   ·exact ih (by omega) (hp k q)
 intro N
 induction N with
 | zero=>intro k; simp
 | succ N ih=>
  intro k
  have hle:(List.range N).countP p≤N:=Nat.le_trans List.countP_le_length (by simp)
  rw [List.range_succ,List.countP_append,List.countP_cons,List.countP_nil]
  cases hN:p N with
  | true=>
   have hall:(List.range N).countP p=N:=by
    have:(List.range N).countP p=(List.range N).length:=List.countP_eq_length.2 fun x hx=>le (Nat.le_of_lt (List.mem_range.1 hx)) hN
    rw [this,List.length_range]
   rw [hall,if_pos rfl]
   constructor
   ·intro h; exact ⟨by omega,le (by omega) hN⟩
   ·intro h; omega
  | false=>
   rw [if_neg (by simp)]
   have:=ih (k:=k)
   constructor
   ·intro h; have h2:=this.1 (by omega); exact ⟨by omega,h2.2⟩
   ·rintro ⟨h1,h2⟩
    have hne:k≠N:=by rintro rfl; rw [hN] at h2; cases h2
    have:=this.2 ⟨by omega,h2⟩; omega
section
variable {n:Nat} {M:Nat→Nat→Int}
theorem B3H (D:Nat→Int) {v:Nat} (hv:v<n):sumR (A5p D v) n=sumR D n-1:=by
 unfold A5p; rw [A1i,A0L 1 v hv]
theorem B6K {E:Nat→Int} (h: ∀v,v<n→0≤E v) (h0:sumR E n=0): ∀v,v<n→E v=0:=fun v hv=>by
 have:=A0X h hv
 have:=h v hv
 omega
theorem A1E {D E:Nat→Int} (h: ∀v,v<n→D v=E v):win n M D↔win n M E:=
 ⟨fun q=>q.mono fun v hv=>by rw [h v hv]; exact Int.le_refl _,fun q=>q.mono fun v hv=>by rw [h v hv]; exact Int.le_refl _⟩
theorem B1O {D:Nat→Int}:A3m n M D 0↔win n M D:=by
 constructor
 ·intro h
  exact (A1E fun v _=>by simp).1 (h (fun _=>0) (fun _ _=>Int.le_refl _) (A0M fun _ _=>rfl))
 ·intro h E h1 h2
  exact (A1E fun v hv=>by rw [B6K h1 h2 v hv]; omega).1 h
theorem A5q {D:Nat→Int} {k:Nat}:A3m n M D (k+1)↔ ∀v,v<n→A3m n M (A5p D v) k:=by
 constructor
 ·intro h v hv E h1 h2
  refine (A1E fun u _=> ?_).1 (h (fun u=>E u+if u=v then 1 else 0) (fun u hu=>by have:=h1 u hu; (try dsimp only); split<;>omega) (by rw [A1g,h2,A0L 1 v hv]; omega))
  unfold A5p; (try dsimp only); omega
 ·intro h E h1 h2
  have hex: ∃v,v<n∧1≤E v:=by
   refine Classical.byContradiction fun hx=> ?_
   have:sumR E n=0:=A0M fun v hv=>by
    have:=h1 v hv
    have: ¬1≤E v:=fun q=>hx ⟨v,hv,q⟩
    omega
   omega
  obtain ⟨v,hv,hE⟩:=hex
  refine (A1E fun u _=> ?_).1 (h v hv (fun u=>E u-if u=v then 1 else 0) (fun u hu=>by
   have:=h1 u hu; (try dsimp only); split
   ·rename_i e; subst e; omega
   ·omega) (by rw [A1i,h2,A0L 1 v hv]; omega))
  unfold A5p; (try dsimp only); omega
theorem B1P (h0:0<n) {D:Nat→Int} {k:Nat} (h:A3m n M D (k+1)):A3m n M D k:=fun E h1 h2=>
 (A5q.1 h 0 h0 E h1 h2).mono fun v _=>by unfold A5p; (try dsimp only); split<;>omega
theorem A6y (hM:Mult n M) (h0:0<n) {D:Nat→Int} {k:Nat} (h:A3m n M D k):(k:Int)≤sumR D n:=by
 have:=(h (fun v=>if v=0 then (k:Int) else 0) (fun v _=>by (try dsimp only); split<;>omega) (A0L _ 0 h0)).deg hM
 rw [A1i,A0L _ 0 h0] at this
 omega
open Classical in
noncomputable def rkD (n:Nat) (M:Nat→Nat→Int) (D:Nat→Int):Int:=((List.range (sumR D n+1).toNat).countP fun k=>decide (A3m n M D k):Nat)-1
theorem A5N (hM:Mult n M) (h0:0<n) {D:Nat→Int} {k:Nat}:(k:Int)≤rkD n M D↔A3m n M D k:=by
 classical
 unfold rkD
 have:=B3G (p:=fun k=>decide (A3m n M D k)) (fun k hk=>decide_eq_true (B1P h0 (of_decide_eq_true hk))) (N:=(sumR D n+1).toNat) (k:=k)
 constructor
 ·intro h
  exact of_decide_eq_true (this.1 (by omega)).2
 ·intro h
  have h1:=A6y hM h0 h
  have:=this.2 ⟨by omega,decide_eq_true h⟩
  omega
theorem A44 (D:Nat→Int): -1≤rkD n M D:=by unfold rkD; omega
theorem B06 (hM:Mult n M) (h0:0<n) {D:Nat→Int}:0≤rkD n M D↔win n M D:=by
 rw [←B1O]; exact A5N hM h0 (k:=0)
theorem B5k (hM:Mult n M) (h0:0<n) {D:Nat→Int} (h:0≤rkD n M D):rkD n M D≤sumR D n:=by
 obtain ⟨k,hk⟩:=Int.eq_ofNat_of_zero_le h
 rw [hk]; exact A6y hM h0 ((A5N hM h0).1 (by omega))
theorem B7E (hM:Mult n M) (h0:0<n) {D E:Nat→Int} (h:A5m n M D E):rkD n M D=rkD n M E:=by
 have key: ∀{D E:Nat→Int},A5m n M D E→ ∀k,A3m n M D k→A3m n M E k:=fun {D E} h k hk F h1 h2=>(hk F h1 h2).eqv (by
  have:=h.plus fun v=> -F v
  exact this)
 have le: ∀{D E:Nat→Int},A5m n M D E→rkD n M D≤rkD n M E:=fun {D E} h=>by
  by_cases hn:0≤rkD n M D
  ·obtain ⟨k,hk⟩:=Int.eq_ofNat_of_zero_le hn
   rw [hk]; exact (A5N hM h0).2 (key h k ((A5N hM h0).1 (by omega)))
  ·have:=A44 (n:=n) (M:=M) E; omega
 have:=le h
 have:=le h.symm
 omega
theorem B2B (hM:Mult n M) (h0:0<n) {D E:Nat→Int} (h: ∀v,v<n→D v=E v):rkD n M D=rkD n M E:=B7E hM h0 (A5m.of_eq fun v hv=>(h v hv).symm)
theorem B8r (hM:Mult n M) (h0:0<n) {D:Nat→Int} (h:win n M D):(∀v,v<n→rkD n M D≤rkD n M (A5p D v)+1)∧ ∃v,v<n∧rkD n M D=rkD n M (A5p D v)+1:=by
 have hr:=(B06 hM h0).2 h
 obtain ⟨r,hr⟩:=Int.eq_ofNat_of_zero_le hr
 have up: ∀v,v<n→rkD n M D≤rkD n M (A5p D v)+1:=fun v hv=>by
  rw [hr]
  cases r with
  | zero=>have:=A44 (n:=n) (M:=M) (A5p D v); omega
  | succ r=>
   have h1:=(A5N hM h0 (D:=D) (k:=r+1)).1 (by omega)
   have:=(A5N hM h0).2 (A5q.1 h1 v hv)
   omega
 refine ⟨up,?_⟩
 have hn: ¬A3m n M D (r+1):=fun h=>by have:=(A5N hM h0).2 h; omega
 rw [A5q] at hn
 refine Classical.byContradiction fun hx=>hn fun v hv=> ?_
 refine Classical.byContradiction fun hq=>hx ⟨v,hv,?_⟩
 have:=up v hv
 have: ¬(r:Int)≤rkD n M (A5p D v):=fun h=>hq ((A5N hM h0).1 h)
 omega
theorem B1Q (hM:Mult n M) (h0:0<n) {D:Nat→Int} (h:twoE n M-2*n<2*sumR D n):win n M D:=by
 obtain ⟨R,h1,h2⟩:=A8G hM h0 D
 refine win.eqv ?_ h1.symm
 rw [A9x hM h0 h2]
 refine Classical.byContradiction fun hx=> ?_
 obtain ⟨r,r1,r2⟩:=B1M h0 h2 (by omega)
 have:=A1s r2
 have:=A9u hM r1
 have:=h1.deg hM
 omega
theorem B6L (hM:Mult n M) (h0:0<n) {D:Nat→Int} (h: ¬win n M D): ∃r:Nat→Nat,(∀u v,u<n→v<n→r u=r v→u=v)∧win n M (fun v=>B27 n M r v-D v):=by
 obtain ⟨R,h1,h2⟩:=A8G hM h0 D
 have hq:R 0<0:=by
  refine Classical.byContradiction fun hx=>h (win.eqv ((A9x hM h0 h2).2 (by omega)) h1.symm)
 obtain ⟨r,r1,r2⟩:=B1M h0 h2 hq
 refine ⟨r,r1,?_⟩
 have he:=(h1.neg).plus (B27 n M r)
 have hw:win n M (fun v=> -R v+B27 n M r v):=A6r.2 ⟨_,A5m.refl _,fun v hv=>by have:=r2 v hv; (try dsimp only); omega⟩
 exact (A1E fun v _=>by (try dsimp only); omega).1 (hw.eqv he.symm)
theorem B9g: ∀u v:Nat,u<n→v<n→(fun v:Nat=>v) u=(fun v:Nat=>v) v→u=v:=fun _ _ _ _ h=>h
theorem B6M (hM:Mult n M) (h0:0<n) {D:Nat→Int} {G:Int} (hG:2*G=twoE n M-2*n+2) (h:2*G-2<sumR D n):rkD n M D=sumR D n-G:=by
 have hord:=A9u hM (r:=fun v=>v) (B9g (n:=n))
 have hGn:0≤G:=by
  refine Classical.byContradiction fun hx=> ?_
  have hw:win n M (fun v=>if v=0 then -1 else 0):=B1Q hM h0 (by rw [A0L (-1) 0 h0]; omega)
  have:=hw.deg hM
  rw [A0L (-1) 0 h0] at this; omega
 have hlow:sumR D n-G≤rkD n M D:=by
  by_cases hg:0≤sumR D n-G
  ·obtain ⟨k,hk⟩:=Int.eq_ofNat_of_zero_le hg
   rw [hk]
   refine (A5N hM h0).2 fun E h1 h2=>B1Q hM h0 ?_
   rw [A1i,h2]; omega
  ·have:=A44 (n:=n) (M:=M) D; omega
 have hup: ¬sumR D n-G+1≤rkD n M D:=fun hx=>by
  obtain ⟨k,hk⟩:=Int.eq_ofNat_of_zero_le (show 0≤sumR D n-G+1 by omega)
  rw [hk] at hx
  have hge:=(A5N hM h0).1 hx
  have hw:win n M (fun v=>D v-B27 n M (fun v=>v) v):=B1Q hM h0 (by rw [A1i]; omega)
  obtain ⟨E,e1,e2⟩:=A6r.1 hw
  have hdE:=e1.deg hM
  rw [A1i] at hdE
  have hw2:=hge E e2 (by omega)
  have he:=(e1.neg).plus D
  refine A7S hM h0 (fun v=>v) ?_
  have hw3:win n M (fun v=> -E v+D v):=(A1E fun v _=>by (try dsimp only); omega).1 hw2
  exact (A1E fun v _=>by (try dsimp only); omega).1 (hw3.eqv he.symm)
 omega
theorem B5l (hM:Mult n M) (h0:0<n) (D:Nat→Int) {G:Int} (hG:2*G=twoE n M-2*n+2):rkD n M (fun v=>B4h n M v-D v)≤G-1-sumR D n+rkD n M D:=by
 have hl:=A44 (n:=n) (M:=M) D
 obtain ⟨k,hk⟩:=Int.eq_ofNat_of_zero_le (show 0≤rkD n M D+1 by omega)
 have hn: ¬A3m n M D k:=fun h=>by have:=(A5N hM h0).2 h; omega
 have: ∃E:Nat→Int,(∀v,v<n→0≤E v)∧sumR E n=k∧ ¬win n M (fun v=>D v-E v):=by
  refine Classical.byContradiction fun hx=>hn fun E h1 h2=> ?_
  exact Classical.byContradiction fun h3=>hx ⟨E,h1,h2,h3⟩
 obtain ⟨E,h1,h2,h3⟩:=this
 obtain ⟨r,r1,r2⟩:=B6L hM h0 h3
 obtain ⟨F,f1,f2⟩:=A6r.1 r2
 obtain ⟨r',s1,s2⟩:=B4W hM r1
 have hdF:=f1.deg hM
 rw [A1i,A1i,h2] at hdF
 have hdo:=A9u hM r1
 refine Classical.byContradiction fun hx=> ?_
 obtain ⟨m,hm⟩:=Int.eq_ofNat_of_zero_le (A0W f2)
 have hge:=(A5N hM h0 (D:=fun v=>B4h n M v-D v) (k:=m)).1 (by omega)
 have hw:=hge F f2 hm
 have he:=(f1.neg).plus fun v=>B4h n M v-D v
 have hw2:win n M (fun v=> -F v+(B4h n M v-D v)):=(A1E fun v _=>by (try dsimp only); omega).1 hw
 have hw3:=hw2.eqv he.symm
 refine A7S hM h0 r' (hw3.mono fun v hv=> ?_)
 have:=h1 v hv
 rw [←s2 v hv]; (try dsimp only); omega
theorem B8s (h0:0<n):sumR (B4h n M) n=twoE n M-2*n:=by
 unfold B4h twoE; rw [A1i,A1H]; omega
theorem rr (hM:Mult n M) (h0:0<n) (D:Nat→Int) {G:Int} (hG:2*G=twoE n M-2*n+2):rkD n M D-rkD n M (fun v=>B4h n M v-D v)=sumR D n-G+1:=by
 have h1:=B5l hM h0 D hG
 have h2:=B5l hM h0 (fun v=>B4h n M v-D v) hG
 have h3:rkD n M (fun v=>B4h n M v-(B4h n M v-D v))=rkD n M D:=B2B hM h0 fun v _=>by omega
 (try dsimp only at h2)
 rw [h3,A1i,B8s h0] at h2
 omega
end
end Go.Proofs.Ytdhfgihnoimoaaa
