/- A part of the proof. -/
import Derived.Test.YtdbdfkohpjefjaaGreatPart30
set_option linter.all false
set_option maxHeartbeats 4000000
set_option maxRecDepth 100000
namespace Go.Proofs.YtdbdfkohpjefjaaGreat
open Go.Sp
structure RedW (n:Nat) (es:List E) (goal W:List Int):Prop where
 len:W.length=n
 red:reducedAt n (mulE es) 0 (fun v=>W.getD v 0)
 eqv:eqvL n es goal W
structure ActS (r:R) (d:List Int):Prop where
 hs:RSm r
 few:(treesG r.g).length≤16384
 siz:sizeE r.es≤8
 ver:r.n≤5
 low:bndL 1000 d
def C3o {r:R} (hr:ROk r) {T:List Nat} (hT:T∈treesG r.g) (v:Nat):0≤(A2l r (zI T)).getD v 0∧(A2l r (zI T)).getD v 0≤2*((endsL r.es).length:Int):=by
 by_cases hv:v<r.n.toNat
 ·have h:=A6P r (zI T) (2*(endsL r.es).length) hv;unfold A2l;rw [Qz,h,Option.getD_some];have:=B1Q (A4a (zI T)) (gR (endsL r.es)) (tourN r (zI T)) v (2*(endsL r.es).length);omega
 ·rw [Qz,Xx (by rw [A2S]; omega)];simp only [Option.getD_none]; omega
end Go.Proofs.YtdbdfkohpjefjaaGreat
