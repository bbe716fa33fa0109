/- A part of the proof. -/
import Derived.Test.YtdhfgihnoimoaaaLayerA
import Derived.Test.YtdhfgihnoimoaaaLayerC
set_option linter.all false
set_option maxHeartbeats 4000000
set_option maxRecDepth 100000
namespace Go.Proofs.Ytdhfgihnoimoaaa
structure PermN (N:Nat) (f:Nat→Nat):Prop where
 lt: ∀x,x<N→f x<N
 inj: ∀x y,x<N→y<N→f x=f y→x=y
def it (f:Nat→Nat):Nat→Nat→Nat
 | 0,x=>x
 | k+1,x=>f (it f k x)
section
variable {N:Nat} {f:Nat→Nat}
end
end Go.Proofs.Ytdhfgihnoimoaaa
namespace Go.Proofs.Ytdhfgihnoimoaaa
structure Eqv (N:Nat) (R:Nat→Nat→Prop):Prop where
 refl: ∀x,x<N→R x x
 symm: ∀x y,x<N→y<N→R x y→R y x
 trans: ∀x y z,x<N→y<N→z<N→R x y→R y z→R x z
open Classical in
noncomputable def B8U (N:Nat) (R:Nat→Nat→Prop):Nat:=((List.range N).filter fun h=>decide (∀y,y<N→R h y→h≤y)).length
theorem B6x {P:Nat→Prop} {x:Nat} (hx:P x): ∃m,m≤x∧P m∧ ∀y,P y→m≤y:=by
 induction x using Nat.strongRecOn with
 | _ x ih=>
  by_cases h: ∃y,y<x∧P y
  ·obtain ⟨y,h1,h2⟩:=h
   obtain ⟨m,q1,q2,q3⟩:=ih y h1 h2
   exact ⟨m,by omega,q2,q3⟩
  ·exact ⟨x,Nat.le_refl _,hx,fun y hy=>Nat.le_of_not_lt fun hlt=>h ⟨y,hlt,hy⟩⟩
end Go.Proofs.Ytdhfgihnoimoaaa
