/- A part of the proof. -/
import Derived.Test.YtdhfgihnoimoaaaLayerC
import Derived.Test.YtdhfgihnoimoaaaPart19
import Derived.Test.YtdhfgihnoimoaaaPart13
import Derived.Test.YtdhfgihnoimoaaaPart08
import Derived.Test.YtdhfgihnoimoaaaPart03
import Derived.Test.YtdhfgihnoimoaaaPart21
import Derived.Test.YtdhfgihnoimoaaaPart16
import Derived.Test.YtdhfgihnoimoaaaPart18
import Derived.Test.YtdhfgihnoimoaaaPart14
import Derived.Test.YtdhfgihnoimoaaaPart15
import Derived.Test.YtdhfgihnoimoaaaPart10
import Derived.Test.YtdhfgihnoimoaaaPart17
import Derived.Test.YtdhfgihnoimoaaaPart07
import Derived.Test.YtdhfgihnoimoaaaPart04
set_option linter.all false
set_option maxHeartbeats 4000000
set_option maxRecDepth 100000
namespace Go.Proofs.Ytdhfgihnoimoaaa
open Go.Sp
theorem B07 {g:G} (hc:checkG g=0) (p:Int×Int):p∈A2c g.es↔p∈endsL g.es:=by
 constructor
 ·intro h
  obtain ⟨e,he,rfl⟩:=List.mem_map.1 h
  have:=(A02.1 hc).2.1 e he
  unfold okE at this
  exact List.mem_flatMap.2 ⟨e,he,List.mem_replicate.2 ⟨by omega,rfl⟩⟩
 ·intro h
  obtain ⟨e,he,rfl⟩:=A36 h
  exact List.mem_map.2 ⟨e,he,rfl⟩
theorem B1R {F:List Nat} (hF:FOk F): ∀n,n≤12→rootsN F n=(A0N F n).length:=by
 intro n
 induction n with
 | zero=>intro _; rfl
 | succ n ih=>
  intro hn
  rw [A3R]
  simp only [rootsN,ih (by omega)]
  by_cases h:rootF F 12 n=n
  ·rw [if_pos h,if_pos ((A9w hF (by omega)).1 h)]; simp
  ·rw [if_neg h,if_neg (fun e=>h ((A9w hF (by omega)).2 e))]; simp
theorem B3I {l m:List (Int×Int)} (hl:B4Y l) (hm:B4Y m) (h: ∀p,p∈l↔p∈m): ∀n,n≤12→rootsN (genS l).1 n=rootsN (genS m).1 n:=by
 intro n
 induction n with
 | zero=>intro _; rfl
 | succ n ih=>
  intro hn
  simp only [rootsN,ih (by omega)]
  have h1:=A39 hl (v:=n) (by omega)
  have h2:=A39 hm (v:=n) (by omega)
  have h3:(∃u,u<n∧Conn l u n)↔(∃u,u<n∧Conn m u n):=
   ⟨fun ⟨u,h4,h5⟩=>⟨u,h4,h5.mono fun p hp=>(h p).1 hp⟩,fun ⟨u,h4,h5⟩=>⟨u,h4,h5.mono fun p hp=>(h p).2 hp⟩⟩
  by_cases e:(genS l).1[n]? =some n
  ·rw [if_pos e,if_pos (h2.2 fun x=>h1.1 e (h3.2 x))]
  ·rw [if_neg e,if_neg (fun x=>e (h1.2 fun y=>h2.1 x (h3.1 y)))]
theorem B08 {g:G} {n:Nat} (hc:checkG g=0) (hn:g.n=n):(A1k (genS (A2c g.es)).1 n).length=A2m g.es n n:=by
 have h12:=(A02.1 hc).1
 have hp:=A6w hc
 have he:B4Y (endsL g.es):=fun p h=>hp p ((B07 hc p).2 h)
 have h1:=A5n hc hn n (Nat.le_refl _)
 have h2:=B3I hp he (B07 hc) n (by omega)
 have h3:=B1R (uf _ hp).ok n (by omega)
 rw [A0O]; omega
theorem A90 (g:G) (hl:g.es.length<2^30):ACall Try.prog 80 [tG g] (.tup [B23 (if checkG g≠0 then [] else A1k (genS (A2c g.es)).1 g.n.toNat),A0g (checkG g)]):=by
 have hC:=A9q g (by omega)
 by_cases hc:checkG g=0
 ·have hJ:=B3C g hc hl
  have hF:=(uf _ (A6w hc)).ok
  have h12:=(A02.1 hc).1
  rw [if_neg (by omega),hc]
  rw [hc] at hC
  have hlF:=hF.len
  unfold tF at hJ
  obtain ⟨n,es⟩:=g
  simp only at hJ h12 ⊢
  generalize (genS (A2c es)).1=F at*
  have hP3:=B5i F hF n.toNat (by omega) (by omega) [.int .i64 n,.slice (A0b es) .none] (fun m _ c hc=>by
   simp only [List.mem_cons,List.not_mem_nil,or_false] at hc
   rcases hc with rfl | rfl<;>exact True.intro) (fun c hc=>by
   simp only [List.mem_cons,List.not_mem_nil,or_false] at hc
   rcases hc with rfl | rfl<;>rfl)
  rw [show ((n.toNat:Nat):Int)=n by omega] at hP3
  generalize A1k F n.toNat=ps at*
  have hof:(fT F).map A0x=fC F:=B9c F
  have hst:=A7f A42 F (by rw [hlF]; rfl)
  have hz:fC A42=[.int .i64 0,.int .i64 0,.int .i64 0,.int .i64 0,.int .i64 0,.int .i64 0,.int .i64 0,.int .i64 0,.int .i64 0,.int .i64 0,.int .i64 0,.int .i64 0]:=rfl
  rw [hz] at hst
  refine ACall.of_body Try.func80 rfl (by kernel_rfl) ?_
  simp only [entry,Try.ntmps80,tG]
  refine zU ?_
  refine zJ trivial (zc @A2q (zc @A7W (zc @hof (zc @hst (zc @hlF trivial))))) (zc hC (zc hJ trivial)) (zc hP3 trivial) trivial ?_
  simp [A0E,A0C,Blk.cells,ty,Try.results80,A0y,A05,toT,A0e,A0c,A0d,A0a,A0g,B23]
 ·rw [if_pos hc]
  generalize checkG g=E at*
  obtain ⟨n,es⟩:=g
  refine ACall.of_body Try.func80 rfl (by kernel_rfl) ?_
  simp only [entry,Try.ntmps80,tG]
  refine zU ?_
  refine zR (zc @hc trivial) (zc hC trivial) trivial ?_
  simp [A0E,A0C,Blk.cells,ty,Try.results80,A0y,A05,toT,A0e,A0c,A0d,A0a,A0g,B23,A1c]
theorem A3n (g:G) (hl:g.es.length<2^30):ACall Try.prog 60 [tG g] (.tup [A09 (decide (checkG g=0)&&connB g),A0g (checkG g)]):=by
 have hC:=A90 g hl
 by_cases hc:checkG g=0
 ·have h12:=(A02.1 hc).1
  have hcnt:=B08 (n:=g.n.toNat) hc (by omega)
  rw [if_neg (by omega)] at hC
  have hb:(decide (checkG g=0)&&connB g)=decide (((A1k (genS (A2c g.es)).1 g.n.toNat).length:Int)=1):=by
   rw [decide_eq_true hc,Bool.true_and]
   unfold connB
   rw [←hcnt]
   exact decide_eq_decide.2 (by omega)
  rw [hb]
  generalize A1k (genS (A2c g.es)).1 g.n.toNat=ps at*
  generalize checkG g=E at*
  obtain ⟨n,es⟩:=g
  refine ACall.of_body Try.func60 rfl (by kernel_rfl) ?_
  simp only [entry,Try.ntmps60,tG]
  refine zU ?_
  refine zR (zc @A1l trivial) (zc hC trivial) trivial ?_
  simp [A0E,A0C,Blk.cells,ty,Try.results60,A0y,A05,toT,A0e,A0c,A0d,A0a,A0g,A09]
 ·rw [if_pos hc] at hC
  rw [decide_eq_false hc,Bool.false_and]
  generalize checkG g=E at*
  obtain ⟨n,es⟩:=g
  refine ACall.of_body Try.func60 rfl (by kernel_rfl) ?_
  simp only [entry,Try.ntmps60,tG]
  refine zU ?_
  refine zR (zc @A1l trivial) (zc hC trivial) trivial ?_
  simp [A0E,A0C,Blk.cells,ty,Try.results60,A0y,A05,toT,A0e,A0c,A0d,A0a,A0g,A09]
structure RSm (r:R):Prop where
 es:r.es.length≤40
 ar:r.ar.length<2^20
 l: ∀l,l∈r.ar→l.length<2^20
theorem B6N (N:Nat) (l:List (Int×Int)):Eqv N (Conn l):=⟨fun _ _=> .refl,fun _ _ _ _ h=>h.symm,fun _ _ _ _ _ _ h1 h2=>h1.trans h2⟩
open Classical in
theorem B3J {g:G} {n:Nat} (hc:checkG g=0) (hn:g.n=n):A2m g.es n n=B8U n (Conn (endsL g.es)):=by
 have h12:=(A02.1 hc).1
 have h1:=A5n hc hn n (Nat.le_refl _)
 rw [A9z] at h1
 have h2:A2m g.es n n=((List.range n).filter fun v=>decide ((genS (endsL g.es)).1[v]? =some v)).length:=by omega
 rw [h2]
 unfold B8U
 congr 1
 refine List.filter_congr fun v hv=> ?_
 have hv':=List.mem_range.1 hv
 have hin:B4Y (endsL g.es):=fun p hp=>by have:=A7V hc hn p hp; omega
 rw [decide_eq_decide,A39 hin (by omega)]
 constructor
 ·intro H y hy hcn
  exact Nat.le_of_not_lt fun hlt=>H ⟨y,hlt,hcn.symm⟩
 ·rintro H ⟨u,hu,hcn⟩
  have:=H u (by omega) hcn.symm
  omega
structure Emb (E n:Nat) (L:List (Int×Int)) (s:Nat→Nat) (g:Nat→Nat):Prop where
 len:L.length=E
 perm:PermN (2*E) s
 lt: ∀x,x<2*E→g x<n
 ends: ∀k,k<E→L[k]? =some (((g (2*k):Nat):Int),((g (2*k+1):Nat):Int))
 keep: ∀x,x<2*E→g (s x)=g x
section
variable {E n:Nat} {L:List (Int×Int)} {s g:Nat→Nat}
end
end Go.Proofs.Ytdhfgihnoimoaaa
namespace Go.Proofs.Ytdhfgihnoimoaaa
open Go.Sp
section
variable {r:R}
end
open Classical in
theorem B6O {N:Nat} {R:Nat→Nat→Prop} (hR:Eqv N R) (h:B8U N R=1) {x y:Nat} (hx:x<N) (hy:y<N):R x y:=by
 unfold B8U at h
 generalize hl:List.filter _ (List.range N)=l at h
 have hmem: ∀h,h∈l↔h<N∧ ∀y,y<N→R h y→h≤y:=fun h=>by rw [←hl]; simp
 have lead: ∀x,x<N→ ∃m,m<N∧R x m∧m∈l:=fun x hx=>by
  obtain ⟨m,m1,⟨m2,m3⟩,m4⟩:=B6x (P:=fun y=>y<N∧R x y) ⟨hx,hR.refl x hx⟩
  exact ⟨m,m2,m3,(hmem m).2 ⟨m2,fun y hy hr=>m4 y ⟨hy,hR.trans x m y hx m2 hy m3 hr⟩⟩⟩
 obtain ⟨a,a1,a2,a3⟩:=lead x hx
 obtain ⟨b,b1,b2,b3⟩:=lead y hy
 obtain ⟨c,rfl⟩: ∃c,l=[c]:=List.length_eq_one_iff.1 h
 have e:a=b:=by simp at a3 b3; rw [a3,b3]
 subst e
 exact hR.trans x a y hx a1 hy a2 (hR.symm y a hy a1 b2)
end Go.Proofs.Ytdhfgihnoimoaaa
namespace Go.Proofs.Ytdhfgihnoimoaaa
open Go.Sp
structure TF (F:List Nat) (rt dp:Nat→Nat):Prop where
 len:F.length=12
 lt: ∀i (h:i<F.length),F[i]<12
 same: ∀i (h:i<F.length),rt F[i]=rt i
 self: ∀i (h:i<F.length),F[i]=i→rt i=i
 down: ∀i (h:i<F.length),F[i]≠i→dp F[i]<dp i
 rlt: ∀i,i<12→rt i<12
 fix: ∀i,i<12→F[rt i]? =some (rt i)
section
variable {F:List Nat} {rt dp:Nat→Nat}
end
structure TC (L:List (Int×Int)) (F:List Nat) (rt dp:Nat→Nat):Prop where
 tf:TF F rt dp
 conn: ∀u w,u<12→w<12→(rt u=rt w↔Conn L u w)
theorem B3K (g:G) (hl:g.es.length≤40) (hc:checkG g=0):ACall Try.prog 61 [tG g] (A09 (connB g)):=by
 have h12:=(A02.1 hc).1
 have hP:=B68 g g.n.toNat hc (by omega) (by omega)
 unfold connB
 generalize A2m g.es g.n.toNat g.n.toNat=k at*
 have e:decide (k=1)=decide ((k:Int)=1):=decide_eq_decide.2 (by omega)
 rw [e]
 obtain ⟨n,es⟩:=g
 refine ACall.of_body Try.func61 rfl (by kernel_rfl) ?_
 simp only [entry,Try.ntmps61,tG]
 refine zU ?_
 refine zR trivial (zc hP trivial) trivial ?_
 simp [A0E,A0C,Blk.cells,ty,Try.results61,A0y,A05,toT,A0e,A0c,A0d,A0a,A09]
theorem A6z {g:G} {n:Nat} (hc:checkG g=0) (hn:g.n=n):connB g=decide (B8U n (Conn (endsL g.es))=1):=by
 unfold connB
 rw [show g.n.toNat=n by omega,B3J hc hn]
@[simp] theorem B9B (f:Nat→Nat) (s:Nat):it f 0 s=s:=rfl
end Go.Proofs.Ytdhfgihnoimoaaa
