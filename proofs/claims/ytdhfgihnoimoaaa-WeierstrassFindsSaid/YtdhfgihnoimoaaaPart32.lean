/- A part of the proof. -/
import Derived.Test.YtdhfgihnoimoaaaLayerC
import Derived.Test.YtdhfgihnoimoaaaPart31
import Derived.Test.YtdhfgihnoimoaaaPart11
import Derived.Test.YtdhfgihnoimoaaaPart23
set_option linter.all false
set_option maxHeartbeats 4000000
set_option maxRecDepth 100000
namespace Go.Proofs.Ytdhfgihnoimoaaa
open Go.Sp
theorem rgiven_ok {n : Nat} {es : List E} (g : Gok n es) (ls : List (List Int)) (hll : ls.length < 2 ^ 20) (hls : ∀ d, d ∈ ls → d.length = n ∧ bndL 1048576 d) : ACall Try.prog 64 [tG ⟨(n : Int), es⟩, .t (.slice (llRows ls))] (tint 0) := by
 have h1 := g.h1
 have h12 := g.h12
 have hC : ACall Try.prog 60 [tG ⟨(n : Int), es⟩] (.tup [tbool true, tint 0]) := by
  have h := g.hl
  have := Connected_ok ⟨(n : Int), es⟩ (by show es.length < 2 ^ 30; omega)
  rw [g.hc, g.hcc] at this
  exact this
 refine ACall.of_body Try.func64 rfl (by kernel_rfl) ?_
 simp only [entry, Try.ntmps64, tG, tint]
 refine zU ?_
 refine zJ (stop 7) (zc @llRows_len trivial) (zc hC trivial) trivial trivial ?_
 refine AWp.loopS (α:=Nat) 34 (fun i=>[(2,.c (.ptr 0 0)),(20,.c (.slice (llRows ls) .none)),(21,.c (.int .i64 (ls.length : Int))),(22,.c (.int .i64 (i : Int)))]) (fun i=>[.box [.int .i64 (n : Int), .slice (eRows es) .none]]) (fun i=>i ≤ ls.length) (fun i=>ls.length - i) (0) (hk:=Weak.headL 1 34 [2, 20, 21, 22] (zV3 @iC_in @bC_inS @stX_in)) (h0:=?_) (round:=fun i hI=>?_)
 ·exact Nat.zero_le _
 ·have hi : i ≤ ls.length := hI
  clear hI
  by_cases hil : i < ls.length
  ·have hiI : (i : Int) < (ls.length : Int) := by omega
   have hge := List.getElem?_eq_getElem hil
   have hg := llRows_get hge
   obtain ⟨d1, d2⟩ := hls _ (List.mem_of_getElem? hge)
   generalize ls[i] = d at *
   have hChk := CheckD_ok d n h1 h12 d1 d2
   refine zR (zc @hiI (zc @hg (zc @llRows_len (zc @Nat.zero_add trivial)))) (zc hChk trivial) trivial ?_
   refine ⟨i + 1,Weak.headN 1 34 [2, 20, 21, 22] (zV3 @iC_in @bC_inS @stX_in),?_,?_⟩
   ·exact hil
   ·omega
  ·have hnl : ¬ (i : Int) < (ls.length : Int) := by omega
   refine zR (zc @hnl trivial) trivial trivial ?_
   simp [Rets, aret, Blk.cells, ty, Try.results64, ares, toT1, toT, borrow, borrow0, capCell, toTree0, tint]
end Go.Proofs.Ytdhfgihnoimoaaa
