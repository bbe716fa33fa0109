/- A part of the proof. -/
import Derived.Test.YtgklecfiflhjmaaPart30
import Derived.Test.YtgklecfiflhjmaaPart27
import Derived.Test.YtgklecfiflhjmaaPart24
import Derived.Test.YtgklecfiflhjmaaPart23
import Derived.Test.YtgklecfiflhjmaaLayerC
set_option linter.all false
set_option maxHeartbeats 4000000
set_option maxRecDepth 100000
namespace Go.Proofs.Ytgklecfiflhjmaa
open Go.Sp
theorem Blocks_law (g : G) : ACall Try.prog 4 [tG g] (tbool true) := by
 have hF := FewG_ok g
 have hA := cawake_ok
 by_cases hf : smallB g 6 9 = true
 case neg =>
  rw [Bool.not_eq_true] at hf
  rw [hf] at hF
  obtain ⟨n, es⟩ := g
  refine ACall.of_body Try.func4 rfl (by kernel_rfl) ?_
  simp only [entry, Try.ntmps4, tG]
  refine zU ?_
  refine zR trivial (zc hF (zc hA trivial)) trivial ?_
  simp [Rets, aret, Blk.cells, ty, Try.results4, ares, toT1, toT, borrow, borrow0, capCell, toTree0, tbool]
 rw [hf] at hF
 have hfw := few_of hf
 have hes := hfw.es
 have hCk := CheckR_ok g (by omega)
 have hB := Blocks_ok g hes
 by_cases hc : checkG g = 0
 case neg =>
  rw [if_pos hc] at hB
  generalize checkG g = E at *
  obtain ⟨n, es⟩ := g
  have e0 : ([] : List (List Int)).length = 0 := rfl
  refine ACall.of_body Try.func4 rfl (by kernel_rfl) ?_
  simp only [entry, Try.ntmps4, tG]
  refine zU ?_
  refine zR (zc @llRows_len (zc @hc (zc @e0 trivial))) (zc hF (zc hA (zc hCk (zc hB trivial)))) trivial ?_
  simp [Rets, aret, Blk.cells, ty, Try.results4, ares, toT1, toT, borrow, borrow0, capCell, toTree0, tbool]
 have h12 := (checkG_zero.1 hc).1
 have hsz := hfw.sz hc
 have hng := ng_of hc hes
 have hLl : (nL (endsL g.es)).length = (endsL g.es).length := nL_len _
 have hR := refBlocks_ok g g.n.toNat _ hc hng hes (by omega)
 rw [if_neg (by omega), blocks_eq hc hng (by omega), hc] at hB
 rw [hc] at hCk
 have hbl := blkR_len (oI (cycW (nL (endsL g.es)) g g.n.toNat (2 ^ (nL (endsL g.es)).length - 1))) (nL (endsL g.es)).length (nL (endsL g.es)).length
 have hbw : ∀ b, b ∈ oI (blkR (oI (cycW (nL (endsL g.es)) g g.n.toNat (2 ^ (nL (endsL g.es)).length - 1))) (nL (endsL g.es)).length (nL (endsL g.es)).length) → b.length < 2 ^ 40 := fun b hb => by
  unfold oI blkR at hb
  rw [List.map_map] at hb
  obtain ⟨j, _, rfl⟩ := List.mem_map.1 hb
  show (zI (blkW _ j _)).length < 2 ^ 40
  rw [zI_len]
  exact Nat.lt_of_le_of_lt (blkW_len _ _ _) (by omega)
 generalize blkR (oI (cycW (nL (endsL g.es)) g g.n.toNat (2 ^ (nL (endsL g.es)).length - 1))) (nL (endsL g.es)).length (nL (endsL g.es)).length = bs at *
 have hSm := Same_refl (oI bs) ⟨by rw [oI_len]; omega, hbw⟩
 generalize oI bs = b1 at *
 obtain ⟨n, es⟩ := g
 refine ACall.of_body Try.func4 rfl (by kernel_rfl) ?_
 simp only [entry, Try.ntmps4, tG]
 refine zU ?_
 repeat' (first|((first|(refine zT ?_;intro K' hK')|(refine zG ?_ ?_<;>(try refine zH ?_)<;>intro hguard<;>(try exact zX)<;>try intro K' hK'))<;>((try simp +contextual only [go_sem, llRows_len]);(repeat' first|(with_reducible refine hK' _ _ ?_;clear hK' K')|((with_reducible first|refine zK hF ?_|refine zK hA ?_|refine zK hCk ?_|refine zK hB ?_|refine zK hR ?_|refine zK hSm ?_);try simp +contextual only [go_sem, llRows_len])|exact zY|with_reducible refine And.intro ?_ ?_|(with_reducible intro hpath;try exact zP)|(refine hK' _ _ ?_;clear hK' K')|fail);try refine zS ?_))|(refine zE ?_;refine hK _ _ ?_;clear hK K)|(refine zN ?_;try refine zS ?_)|refine zA ?_|(refine zB ?_;intro K hK)|(refine zC ?_ ?_<;>(try refine zH ?_)<;>intro hcond<;>try exact zX)|fail)
 simp [Rets, aret, Blk.cells, ty, Try.results4, ares, toT1, toT, borrow, borrow0, capCell, toTree0, tbool]
end Go.Proofs.Ytgklecfiflhjmaa
