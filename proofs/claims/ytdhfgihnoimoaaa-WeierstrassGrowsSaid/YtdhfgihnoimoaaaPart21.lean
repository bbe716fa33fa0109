/- A part of the proof. -/
import Derived.Test.YtdhfgihnoimoaaaPart17
import Derived.Test.YtdhfgihnoimoaaaPart16
import Derived.Test.YtdhfgihnoimoaaaLayerC
set_option linter.all false
set_option maxHeartbeats 4000000
set_option maxRecDepth 100000
namespace Go.Proofs.Ytdhfgihnoimoaaa
open Go.Sp
theorem A95 (F:List Nat) (k:Nat):rootsN F k=((List.range k).filter fun v=>decide (F[v]? =some v)).length:=by
 induction k with
 | zero=>rfl
 | succ k ih=>
  simp only [rootsN]
  rw [ih,List.range_succ,List.filter_append,List.length_append]
  by_cases h:F[k]? =some k<;>simp [h]
set_option maxHeartbeats 1000000
def A2D (n:Nat) (M:Nat→Nat→Int) (D:Nat→Int) (k:Nat):Prop:= ∀E:Nat→Int,(∀v,v<n→0≤E v)→sumR E n=k→win n M (fun v=>D v-E v)
def A41 (D:Nat→Int) (v:Nat):Nat→Int:=fun u=>D u-if u=v then 1 else 0
theorem B3E {p:Nat→Bool} (hp: ∀k,p (k+1)=true→p k=true): ∀{N k:Nat},k<(List.range N).countP p↔k<N∧p k=true:=by
 have le: ∀{j k:Nat},j≤k→p k=true→p j=true:=fun {j k} h=>by
  induction k with
  | zero=>intro q; rw [show j=0 by omega]; exact q
  | succ k ih=>
   intro q
   by_cases e:j=k+1
   ·rw [e]; exact q
   ·exact ih (by omega) (hp k q)
 intro N
 induction N with
 | zero=>intro k; simp
 | succ N ih=>
  intro k
  have hle:(List.range N).countP p≤N:=Nat.le_trans List.countP_le_length (by simp)
  rw [List.range_succ,List.countP_append,List.countP_cons,List.countP_nil]
  cases hN:p N with
  | true=>
   have hall:(List.range N).countP p=N:=by
    have:(List.range N).countP p=(List.range N).length:=List.countP_eq_length.2 fun x hx=>le (Nat.le_of_lt (List.mem_range.1 hx)) hN
    rw [this,List.length_range]
   rw [hall,if_pos rfl]
   constructor
   ·intro h; exact ⟨by omega,le (by omega) hN⟩
   ·intro h; omega
  | false=>
   rw [if_neg (by simp)]
   have:=ih (k:=k)
   constructor
   ·intro h; have h2:=this.1 (by omega); exact ⟨by omega,h2.2⟩
   ·rintro ⟨h1,h2⟩
    have hne:k≠N:=by rintro rfl; rw [hN] at h2; cases h2
    have:=this.2 ⟨by omega,h2⟩; omega
section
variable {n:Nat} {M:Nat→Nat→Int}
theorem B3F (D:Nat→Int) {v:Nat} (hv:v<n):sumR (A41 D v) n=sumR D n-1:=by
 unfold A41; rw [A1g,A0D 1 v hv]
theorem B6K {E:Nat→Int} (h: ∀v,v<n→0≤E v) (h0:sumR E n=0): ∀v,v<n→E v=0:=fun v hv=>by
 have:=A0U h hv
 have:=h v hv
 omega
theorem A1C {D E:Nat→Int} (h: ∀v,v<n→D v=E v):win n M D↔win n M E:=
 ⟨fun q=>q.mono fun v hv=>by rw [h v hv]; exact Int.le_refl _,fun q=>q.mono fun v hv=>by rw [h v hv]; exact Int.le_refl _⟩
theorem B1L {D:Nat→Int}:A2D n M D 0↔win n M D:=by
 constructor
 ·intro h
  exact (A1C fun v _=>by simp).1 (h (fun _=>0) (fun _ _=>Int.le_refl _) (A0C fun _ _=>rfl))
 ·intro h E h1 h2
  exact (A1C fun v hv=>by rw [B6K h1 h2 v hv]; omega).1 h
theorem A5q {D:Nat→Int} {k:Nat}:A2D n M D (k+1)↔ ∀v,v<n→A2D n M (A41 D v) k:=by
 constructor
 ·intro h v hv E h1 h2
  refine (A1C fun u _=> ?_).1 (h (fun u=>E u+if u=v then 1 else 0) (fun u hu=>by have:=h1 u hu; (try dsimp only); split<;>omega) (by rw [A1d,h2,A0D 1 v hv]; omega))
  unfold A41; (try dsimp only); omega
 ·intro h E h1 h2
  have hex: ∃v,v<n∧1≤E v:=by
   refine Classical.byContradiction fun hx=> ?_
   have:sumR E n=0:=A0C fun v hv=>by
    have:=h1 v hv
    have: ¬1≤E v:=fun q=>hx ⟨v,hv,q⟩
    omega
   omega
  obtain ⟨v,hv,hE⟩:=hex
  refine (A1C fun u _=> ?_).1 (h v hv (fun u=>E u-if u=v then 1 else 0) (fun u hu=>by
   have:=h1 u hu; (try dsimp only); split
   ·rename_i e; subst e; omega
   ·omega) (by rw [A1g,h2,A0D 1 v hv]; omega))
  unfold A41; (try dsimp only); omega
theorem B1M (h0:0<n) {D:Nat→Int} {k:Nat} (h:A2D n M D (k+1)):A2D n M D k:=fun E h1 h2=>
 (A5q.1 h 0 h0 E h1 h2).mono fun v _=>by unfold A41; (try dsimp only); split<;>omega
theorem A6w (hM:Mult n M) (h0:0<n) {D:Nat→Int} {k:Nat} (h:A2D n M D k):(k:Int)≤sumR D n:=by
 have:=(h (fun v=>if v=0 then (k:Int) else 0) (fun v _=>by (try dsimp only); split<;>omega) (A0D _ 0 h0)).deg hM
 rw [A1g,A0D _ 0 h0] at this
 omega
open Classical in
noncomputable def rkD (n:Nat) (M:Nat→Nat→Int) (D:Nat→Int):Int:=((List.range (sumR D n+1).toNat).countP fun k=>decide (A2D n M D k):Nat)-1
theorem A4T (hM:Mult n M) (h0:0<n) {D:Nat→Int} {k:Nat}:(k:Int)≤rkD n M D↔A2D n M D k:=by
 classical
 unfold rkD
 have:=B3E (p:=fun k=>decide (A2D n M D k)) (fun k hk=>decide_eq_true (B1M h0 (of_decide_eq_true hk))) (N:=(sumR D n+1).toNat) (k:=k)
 constructor
 ·intro h
  exact of_decide_eq_true (this.1 (by omega)).2
 ·intro h
  have h1:=A6w hM h0 h
  have:=this.2 ⟨by omega,decide_eq_true h⟩
  omega
theorem A42 (D:Nat→Int): -1≤rkD n M D:=by unfold rkD; omega
theorem A8H (hM:Mult n M) (h0:0<n) {D:Nat→Int}:0≤rkD n M D↔win n M D:=by
 rw [←B1L]; exact A4T hM h0 (k:=0)
theorem B24 (hM:Mult n M) (h0:0<n) {D:Nat→Int} (h:0≤rkD n M D):rkD n M D≤sumR D n:=by
 obtain ⟨k,hk⟩:=Int.eq_ofNat_of_zero_le h
 rw [hk]; exact A6w hM h0 ((A4T hM h0).1 (by omega))
theorem B7F (hM:Mult n M) (h0:0<n) {D E:Nat→Int} (h:A5n n M D E):rkD n M D=rkD n M E:=by
 have key: ∀{D E:Nat→Int},A5n n M D E→ ∀k,A2D n M D k→A2D n M E k:=fun {D E} h k hk F h1 h2=>(hk F h1 h2).eqv (by
  have:=h.plus fun v=> -F v
  exact this)
 have le: ∀{D E:Nat→Int},A5n n M D E→rkD n M D≤rkD n M E:=fun {D E} h=>by
  by_cases hn:0≤rkD n M D
  ·obtain ⟨k,hk⟩:=Int.eq_ofNat_of_zero_le hn
   rw [hk]; exact (A4T hM h0).2 (key h k ((A4T hM h0).1 (by omega)))
  ·have:=A42 (n:=n) (M:=M) E; omega
 have:=le h
 have:=le h.symm
 omega
theorem A6Z (hM:Mult n M) (h0:0<n) {D E:Nat→Int} (h: ∀v,v<n→D v=E v):rkD n M D=rkD n M E:=B7F hM h0 (A5n.of_eq fun v hv=>(h v hv).symm)
theorem B5d (hM:Mult n M) (h0:0<n) {D:Nat→Int} (h:win n M D):(∀v,v<n→rkD n M D≤rkD n M (A41 D v)+1)∧ ∃v,v<n∧rkD n M D=rkD n M (A41 D v)+1:=by
 have hr:=(A8H hM h0).2 h
 obtain ⟨r,hr⟩:=Int.eq_ofNat_of_zero_le hr
 have up: ∀v,v<n→rkD n M D≤rkD n M (A41 D v)+1:=fun v hv=>by
  rw [hr]
  cases r with
  | zero=>have:=A42 (n:=n) (M:=M) (A41 D v); omega
  | succ r=>
   have h1:=(A4T hM h0 (D:=D) (k:=r+1)).1 (by omega)
   have:=(A4T hM h0).2 (A5q.1 h1 v hv)
   omega
 refine ⟨up,?_⟩
 have hn: ¬A2D n M D (r+1):=fun h=>by have:=(A4T hM h0).2 h; omega
 rw [A5q] at hn
 refine Classical.byContradiction fun hx=>hn fun v hv=> ?_
 refine Classical.byContradiction fun hq=>hx ⟨v,hv,?_⟩
 have:=up v hv
 have: ¬(r:Int)≤rkD n M (A41 D v):=fun h=>hq ((A4T hM h0).1 h)
 omega
theorem B1N (hM:Mult n M) (h0:0<n) {D:Nat→Int} (h:twoE n M-2*n<2*sumR D n):win n M D:=by
 obtain ⟨R,h1,h2⟩:=A8G hM h0 D
 refine win.eqv ?_ h1.symm
 rw [A94 hM h0 h2]
 refine Classical.byContradiction fun hx=> ?_
 obtain ⟨r,r1,r2⟩:=B1J h0 h2 (by omega)
 have:=A1y r2
 have:=A91 hM r1
 have:=h1.deg hM
 omega
theorem B6L (hM:Mult n M) (h0:0<n) {D:Nat→Int} (h: ¬win n M D): ∃r:Nat→Nat,(∀u v,u<n→v<n→r u=r v→u=v)∧win n M (fun v=>B20 n M r v-D v):=by
 obtain ⟨R,h1,h2⟩:=A8G hM h0 D
 have hq:R 0<0:=by
  refine Classical.byContradiction fun hx=>h (win.eqv ((A94 hM h0 h2).2 (by omega)) h1.symm)
 obtain ⟨r,r1,r2⟩:=B1J h0 h2 hq
 refine ⟨r,r1,?_⟩
 have he:=(h1.neg).plus (B20 n M r)
 have hw:win n M (fun v=> -R v+B20 n M r v):=A6p.2 ⟨_,A5n.refl _,fun v hv=>by have:=r2 v hv; (try dsimp only); omega⟩
 exact (A1C fun v _=>by (try dsimp only); omega).1 (hw.eqv he.symm)
theorem B9q: ∀u v:Nat,u<n→v<n→(fun v:Nat=>v) u=(fun v:Nat=>v) v→u=v:=fun _ _ _ _ h=>h
theorem B25 (hM:Mult n M) (h0:0<n) {D:Nat→Int} {G:Int} (hG:2*G=twoE n M-2*n+2) (h:2*G-2<sumR D n):rkD n M D=sumR D n-G:=by
 have hord:=A91 hM (r:=fun v=>v) (B9q (n:=n))
 have hGn:0≤G:=by
  refine Classical.byContradiction fun hx=> ?_
  have hw:win n M (fun v=>if v=0 then -1 else 0):=B1N hM h0 (by rw [A0D (-1) 0 h0]; omega)
  have:=hw.deg hM
  rw [A0D (-1) 0 h0] at this; omega
 have hlow:sumR D n-G≤rkD n M D:=by
  by_cases hg:0≤sumR D n-G
  ·obtain ⟨k,hk⟩:=Int.eq_ofNat_of_zero_le hg
   rw [hk]
   refine (A4T hM h0).2 fun E h1 h2=>B1N hM h0 ?_
   rw [A1g,h2]; omega
  ·have:=A42 (n:=n) (M:=M) D; omega
 have hup: ¬sumR D n-G+1≤rkD n M D:=fun hx=>by
  obtain ⟨k,hk⟩:=Int.eq_ofNat_of_zero_le (show 0≤sumR D n-G+1 by omega)
  rw [hk] at hx
  have hge:=(A4T hM h0).1 hx
  have hw:win n M (fun v=>D v-B20 n M (fun v=>v) v):=B1N hM h0 (by rw [A1g]; omega)
  obtain ⟨E,e1,e2⟩:=A6p.1 hw
  have hdE:=e1.deg hM
  rw [A1g] at hdE
  have hw2:=hge E e2 (by omega)
  have he:=(e1.neg).plus D
  refine A7P hM h0 (fun v=>v) ?_
  have hw3:win n M (fun v=> -E v+D v):=(A1C fun v _=>by (try dsimp only); omega).1 hw2
  exact (A1C fun v _=>by (try dsimp only); omega).1 (hw3.eqv he.symm)
 omega
theorem B5e (hM:Mult n M) (h0:0<n) (D:Nat→Int) {G:Int} (hG:2*G=twoE n M-2*n+2):rkD n M (fun v=>B09 n M v-D v)≤G-1-sumR D n+rkD n M D:=by
 have hl:=A42 (n:=n) (M:=M) D
 obtain ⟨k,hk⟩:=Int.eq_ofNat_of_zero_le (show 0≤rkD n M D+1 by omega)
 have hn: ¬A2D n M D k:=fun h=>by have:=(A4T hM h0).2 h; omega
 have: ∃E:Nat→Int,(∀v,v<n→0≤E v)∧sumR E n=k∧ ¬win n M (fun v=>D v-E v):=by
  refine Classical.byContradiction fun hx=>hn fun E h1 h2=> ?_
  exact Classical.byContradiction fun h3=>hx ⟨E,h1,h2,h3⟩
 obtain ⟨E,h1,h2,h3⟩:=this
 obtain ⟨r,r1,r2⟩:=B6L hM h0 h3
 obtain ⟨F,f1,f2⟩:=A6p.1 r2
 obtain ⟨r',s1,s2⟩:=B4P hM r1
 have hdF:=f1.deg hM
 rw [A1g,A1g,h2] at hdF
 have hdo:=A91 hM r1
 refine Classical.byContradiction fun hx=> ?_
 obtain ⟨m,hm⟩:=Int.eq_ofNat_of_zero_le (A0M f2)
 have hge:=(A4T hM h0 (D:=fun v=>B09 n M v-D v) (k:=m)).1 (by omega)
 have hw:=hge F f2 hm
 have he:=(f1.neg).plus fun v=>B09 n M v-D v
 have hw2:win n M (fun v=> -F v+(B09 n M v-D v)):=(A1C fun v _=>by (try dsimp only); omega).1 hw
 have hw3:=hw2.eqv he.symm
 refine A7P hM h0 r' (hw3.mono fun v hv=> ?_)
 have:=h1 v hv
 rw [←s2 v hv]; (try dsimp only); omega
theorem B5f (h0:0<n):sumR (B09 n M) n=twoE n M-2*n:=by
 unfold B09 twoE; rw [A1g,A1E]; omega
theorem rr (hM:Mult n M) (h0:0<n) (D:Nat→Int) {G:Int} (hG:2*G=twoE n M-2*n+2):rkD n M D-rkD n M (fun v=>B09 n M v-D v)=sumR D n-G+1:=by
 have h1:=B5e hM h0 D hG
 have h2:=B5e hM h0 (fun v=>B09 n M v-D v) hG
 have h3:rkD n M (fun v=>B09 n M v-(B09 n M v-D v))=rkD n M D:=A6Z hM h0 fun v _=>by omega
 (try dsimp only at h2)
 rw [h3,A1g,B5f h0] at h2
 omega
end
end Go.Proofs.Ytdhfgihnoimoaaa
