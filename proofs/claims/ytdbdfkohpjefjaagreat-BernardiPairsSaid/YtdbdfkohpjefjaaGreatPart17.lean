/- A part of the proof. -/
import Derived.Test.YtdbdfkohpjefjaaGreatPart13
import Derived.Test.YtdbdfkohpjefjaaGreatPart14
set_option linter.all false
set_option maxHeartbeats 4000000
set_option maxRecDepth 100000
namespace Go.Proofs.YtdbdfkohpjefjaaGreat
open Go.Sp
def C29 {l:List Int} (hs:l.Pairwise (·< ·)) {i:Nat} {v:Int} (h:l[i]? =some v):A1C l v=i:=by
 obtain ⟨hi,rfl⟩:=Qx.1 h;refine B5v (fun j hj x hx e=> ?_) hi rfl;obtain ⟨hjl,rfl⟩:=Qx.1 hx;have:=ZV.1 hs j i hjl hi hj;omega
def B9N {l:List Int} {v:Int} (h:0≤A1C l v):l[(A1C l v).toNat]? =some v:=by
 induction l with
 | nil=>simp [A1C] at h
 | cons x xs ih=>
  simp only [A1C] at h ⊢;by_cases e:x=v
  ·rw [if_pos e]; simp [e]
  ·rw [if_neg e] at h ⊢;split at h
   ·omega
   ·rename_i h2;rw [if_neg h2,show (A1C xs v+1).toNat=(A1C xs v).toNat+1 by omega,List.getElem?_cons_succ];exact ih (by omega)
end Go.Proofs.YtdbdfkohpjefjaaGreat
