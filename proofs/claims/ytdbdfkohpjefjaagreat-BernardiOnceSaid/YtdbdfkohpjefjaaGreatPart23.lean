/- A part of the proof. -/
import Derived.Test.YtdbdfkohpjefjaaGreatPart17
import Derived.Test.YtdbdfkohpjefjaaGreatPart19
set_option linter.all false
set_option maxHeartbeats 4000000
set_option maxRecDepth 100000
namespace Go.Proofs.YtdbdfkohpjefjaaGreat
open Go.Sp
def ATf (L:List (Nat×Nat)):List (List Int):=(List.range 12).map fun v=>zI (atV L v)
theorem C3E (L:List (Nat×Nat)):(ATf L).length=12:=by simp [ATf]
theorem B3M (T:List Nat) (x:Nat):zI T++[(x:Int)]=zI (T++[x]):=by simp [zI]
theorem B0k {n:Int}: ∀{l:List Int} {u:Option Int},A2h n u l=0->(∀x,x∈l->0≤x∧x<n)∧l.Pairwise (·< ·)∧(∀w,u=some w-> ∀x,x∈l->w<x)
 | [],u,_=>⟨fun x hx=>absurd hx (by simp),List.Pairwise.nil,fun w _ x hx=>absurd hx (by simp)⟩
 | v ::l,u,h=>by
  simp only [A2h] at h;split at h
  ·omega
  ·split at h
   ·omega
   ·rename_i h1 h2;obtain ⟨q1,q2,q3⟩:=B0k h;have q4:=q3 v rfl;refine ⟨fun x hx=> ?_,YY.2 ⟨q4,q2⟩,fun w hw x hx=> ?_⟩
    ·rcases Qw.1 hx with rfl | hx
     ·omega
     ·exact q1 x hx
    ·have hwv:w<v:=by
      rcases Int.lt_or_le w v with h3 | h3
      ·exact h3
      ·exact absurd ⟨w,hw,h3⟩ h2
     rcases Qw.1 hx with rfl | hx
     ·exact hwv
     ·have:=q4 x hx; omega
theorem C19 {l:List Int} (hs:l.Pairwise (·< ·)) {i:Nat} {v:Int} (h:l[i]? =some v):A19 l v=i:=by
 obtain ⟨hi,rfl⟩:=Qx.1 h;refine B4D (fun j hj x hx e=> ?_) hi rfl;obtain ⟨hjl,rfl⟩:=Qx.1 hx;have:=Yz.1 hs j i hjl hi hj;omega
theorem B8V {l:List Int} {v:Int} (h:0≤A19 l v):l[(A19 l v).toNat]? =some v:=by
 induction l with
 | nil=>simp [A19] at h
 | cons x xs ih=>
  simp only [A19] at h ⊢;by_cases e:x=v
  ·rw [if_pos e]; simp [e]
  ·rw [if_neg e] at h ⊢;split at h
   ·omega
   ·rename_i h2;rw [if_neg h2,show (A19 xs v+1).toNat=(A19 xs v).toNat+1 by omega,List.getElem?_cons_succ];exact ih (by omega)
end Go.Proofs.YtdbdfkohpjefjaaGreat
