/- A part of the proof. -/
import Derived.Test.YtdbdfkohpjefjaaGreatPart13
set_option linter.all false
set_option maxHeartbeats 4000000
set_option maxRecDepth 100000
namespace Go.Proofs.YtdbdfkohpjefjaaGreat
open Go.Sp
def connB (g:G):Bool:=decide (A1J g.es g.n.toNat g.n.toNat=1)
def A0s (g:G):Int:=if checkG g≠0 then checkG g else if connB g=true then 0 else 13
def ribE (r:R):Int:=if A0s r.g≠0 then A0s r.g else if (r.ar.length:Int)≠r.n then 8 else A8Y (endsL r.es) (2*(endsL r.es).length) 0 r.ar
structure ROk (r:R):Prop where
 c:checkG r.g=0
 conn:connB r.g=true
 len:(r.ar.length:Int)=r.n
 l: ∀(i:Nat) l,r.ar[i]? =some l->LOk l (ownL (endsL r.es) (i:Int) (2*(endsL r.es).length))
theorem B7Q {r:R} (h:ribE r=0):ROk r:=by
 unfold ribE A0s at h;by_cases h1:checkG r.g≠0
 ·simp only [if_pos h1] at h; omega
 ·rw [if_neg h1] at h;by_cases h2:connB r.g=true
  ·rw [if_pos h2] at h;by_cases h3:(r.ar.length:Int)≠r.n
   ·rw [if_neg (by omega),if_pos h3] at h; omega
   ·rw [if_neg (by omega),if_neg h3] at h;exact ⟨by omega,h2,by omega,fun i l hl=>by have:=A99 h i l hl; rwa [Xk] at this⟩
  ·rw [if_neg h2] at h; omega
section
variable {r:R}
theorem A1D (hc:checkG r.g=0) {h:Nat} (hh:h<2*(endsL r.es).length):0≤atL (endsL r.es) h∧atL (endsL r.es) h<r.n:=by
 have hm:h / 2<(endsL r.es).length:=by omega
 have he:=ends_range hc (Xv (l:=endsL r.g.es) hm);unfold atL;rw [Qz,Qq hm];simp only [Option.getD_some];split
 ·exact he.1
 ·exact he.2
theorem ROk.row (hr:ROk r) {h:Nat} (hh:h<2*(endsL r.es).length): ∃l,r.ar[(atL (endsL r.es) h).toNat]? =some l∧r.ar.getD (atL (endsL r.es) h).toNat []=l∧LOk l (ownL (endsL r.es) (atL (endsL r.es) h) (2*(endsL r.es).length))∧(h:Int)∈l:=by
 have ha:=A1D hr.c hh;have hlt:(atL (endsL r.es) h).toNat<r.ar.length:=by have:=hr.len; omega
 have e:=Qq hlt;have hl:=hr.l _ _ e;rw [show (((atL (endsL r.es) h).toNat:Nat):Int)=atL (endsL r.es) h by omega] at hl;refine ⟨_,e,by rw [Qz,e]; rfl,hl,hl.sup _ (A1L.2 ⟨by omega,by omega,by simp⟩)⟩
theorem ROk.next (hr:ROk r) {h:Nat} (hh:h<2*(endsL r.es).length):0≤nextR (endsL r.es) r.ar h∧nextR (endsL r.es) r.ar h<(2*(endsL r.es).length:Nat)∧atL (endsL r.es) (nextR (endsL r.es) r.ar h).toNat=atL (endsL r.es) h:=by
 obtain ⟨l,h1,h2,h3,h4⟩:=hr.row hh;unfold nextR;rw [h2];exact A1L.1 (h3.sub _ (B7w h4))
theorem ROk.next_inj (hr:ROk r) {h k:Nat} (hh:h<2*(endsL r.es).length) (hk:k<2*(endsL r.es).length) (e:nextR (endsL r.es) r.ar h=nextR (endsL r.es) r.ar k):h=k:=by
 have a1:=(hr.next hh).2.2;have a2:=(hr.next hk).2.2;rw [e] at a1;have a3:=a1.symm.trans a2;obtain ⟨l,h1,h2,h3,h4⟩:=hr.row hh;obtain ⟨l',h1',h2',h3',h4'⟩:=hr.row hk;rw [a3,h1'] at h1;cases h1;unfold nextR at e;rw [h2,h2'] at e;have:=B7x h3.nd h4 h4' e;omega
end
end Go.Proofs.YtdbdfkohpjefjaaGreat
