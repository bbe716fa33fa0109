/- A part of the proof. -/
import Derived.Test.YtdbdfkohpjefjaaGreatPart13
import Derived.Test.YtdbdfkohpjefjaaGreatPart14
import Derived.Test.YtdbdfkohpjefjaaGreatPart15
set_option linter.all false
set_option maxHeartbeats 4000000
set_option maxRecDepth 100000
namespace Go.Proofs.YtdbdfkohpjefjaaGreat
open Go.Sp
def C8k (l:List Nat):List Int:=l.map fun x:Nat=>(x:Int)
def B0T {B:List Int} {n:Nat} (h:B.length=n) {H:List Blk} {id:Nat} (hid:H[id]? =some (.box (iC B))):A0d H (.ref id 1 0 n n)=some (.slice (A0l B)):=by
 have e:A0d H (.ref id 1 0 n n)=A0b H (.ref id 1 0 n n):=rfl;have hf:=A4P (rows:=A0l B) (k:=1) (cap:=n) (fun r hr=>A1c hr) (fun r hr=>by obtain ⟨b,_,rfl⟩:=QY.1 hr; rfl) (by rw [A0e]; omega);rw [A53,A0e,h] at hf;unfold A4O at hf;rw [e];simp only [A0b,hid,Blk.cells,Option.bind_some];split at hf
 ·rename_i hc;rw [if_pos hc];cases hm:(((iC B).drop 0).take (n*1)).mapM A0a with
  | none=>rw [hm] at hf; simp at hf
  | some ts=>
   rw [hm] at hf;simp only [Option.bind_some] at hf;split at hf
   ·simp at hf; simp [hf]
   ·simp at hf
 ·simp at hf
def C6N (r:R):List (List Int):=(facesR r).map C8k
structure NG (g:G) (n:Nat) (L:List (Nat×Nat)):Prop where
 hn:g.n=n
 h1:1≤n
 h12:n≤12
 ends:endsL g.es=LI L
 lt: ∀p,p∈L->p.1<n∧p.2<n
 len:L.length≤2000
def tB (L:List (Nat×Nat)) (v:Nat) (B:List Nat):Bool:=B.any fun e=>decide ((edL L e).1≠(edL L e).2)&&(decide ((edL L e).1=v)||decide ((edL L e).2=v))
def C3j {l:List Int} (hs:l.Pairwise (·< ·)) {i:Nat} {v:Int} (h:l[i]? =some v):A1A l v=i:=by
 obtain ⟨hi,rfl⟩:=Qx.1 h;refine B5H (fun j hj x hx e=> ?_) hi rfl;obtain ⟨hjl,rfl⟩:=Qx.1 hx;have:=ZJ.1 hs j i hjl hi hj;omega
def C0u {l:List Int} {v:Int} (h:0≤A1A l v):l[(A1A l v).toNat]? =some v:=by
 induction l with
 | nil=>simp [A1A] at h
 | cons x xs ih=>
  simp only [A1A] at h ⊢;by_cases e:x=v
  ·rw [if_pos e]; simp [e]
  ·rw [if_neg e] at h ⊢;split at h
   ·omega
   ·rename_i h2;rw [if_neg h2,show (A1A xs v+1).toNat=(A1A xs v).toNat+1 by omega,List.getElem?_cons_succ];exact ih (by omega)
end Go.Proofs.YtdbdfkohpjefjaaGreat
