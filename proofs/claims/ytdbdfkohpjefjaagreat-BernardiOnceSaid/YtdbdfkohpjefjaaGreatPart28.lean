/- A part of the proof. -/
import Derived.Test.YtdbdfkohpjefjaaGreatPart21
import Derived.Test.YtdbdfkohpjefjaaGreatPart23
import Derived.Test.YtdbdfkohpjefjaaGreatPart24
set_option linter.all false
set_option maxHeartbeats 4000000
set_option maxRecDepth 100000
namespace Go.Proofs.YtdbdfkohpjefjaaGreat
open Go.Sp
@[simp] theorem C6o (L:List (Nat×Nat)):(chJ (ATf L)).take 12=chJ (ATf L):=A6u (by rw [C3E]; exact QQ _)
theorem B9h (es:List E):(A0f es).all A1g=true:=by
 rw [Zv]; intro r hr;obtain ⟨x,_,rfl⟩:=QJ.1 hr; rfl
theorem B9i (l:List Int):(A0p l).all A1g=true:=by
 rw [Zv]; intro r hr;obtain ⟨x,_,rfl⟩:=QJ.1 hr; rfl
theorem C1I {l:List (List Int)} {r:List Tree} (h:r∈A00 l):B0M r:=by
 obtain ⟨x,_,rfl⟩:=QJ.1 h;intro t ht;rw [Zz] at ht;subst ht;exact ⟨_,rfl,B9i x⟩
theorem C1J {l:List Blk} (h: ∀b,b∈l->B7K b) (id:Nat) (blk:Blk) (hb:l[id]? =some blk):B7K blk:=h blk (Qy hb)
structure NG (g:G) (n:Nat) (L:List (Nat×Nat)):Prop where
 hn:g.n=n
 h1:1≤n
 h12:n≤12
 ends:endsL g.es=LI L
 lt: ∀p,p∈L->p.1<n∧p.2<n
 len:L.length≤2000
def tB (L:List (Nat×Nat)) (v:Nat) (B:List Nat):Bool:=B.any fun e=>decide ((edL L e).1≠(edL L e).2)&&(decide ((edL L e).1=v)||decide ((edL L e).2=v))
end Go.Proofs.YtdbdfkohpjefjaaGreat
